/- pledgelaw16.right: lines that may be, of some. -/
import Derived.Test.YtclhajcphnpgjaaDoorLines
import Derived.Test.YtclhajcphnpgjaaDoorFlat
import Derived.Deep.RegionHeld3
namespace Go.Proofs.YtclhajcphnpgjaaDoor
open Go.Maps
open Go Go.RowKit
set_option linter.unusedSimpArgs false
set_option linter.unusedVariables false

/-- An amount below m, of any number. -/
def absR (v m : Int) : Int := if v.tmod m < 0 then -(v.tmod m) else v.tmod m
theorem absR_bd (v : Int) {m : Int} (h : 0 < m) : 0 ≤ absR v m ∧ absR v m < m := by
  have h1 := Int.tmod_lt_of_pos v h
  have h2 := Int.lt_tmod_of_pos v h
  unfold absR
  split <;> omega
def rightAt (zs : List Int) (i : Nat) : G × Int := ((zs.getD (i * 4) 0 % 6 + 1, zs.getD (i * 4 + 1) 0 % 6 + 1, zs.getD (i * 4 + 2) 0 % 33), absR (zs.getD (i * 4 + 3) 0) 1000000)
def rightL (zs : List Int) (n : Nat) : List (G × Int) := (List.range n).map (rightAt zs)
theorem rightL_len (zs : List Int) (n : Nat) : (rightL zs n).length = n := by simp [rightL]
theorem rightL_snoc (zs : List Int) (n : Nat) : rightL zs (n + 1) = rightL zs n ++ [rightAt zs n] := by simp [rightL, List.range_succ]
theorem rightAt_fits (zs : List Int) (i : Nat) : fitsL (rightAt zs i) = true ∧ (rightAt zs i).2 < 1000000 := by
  have h := absR_bd (zs.getD (i * 4 + 3) 0) (show (0 : Int) < 1000000 by decide)
  refine ⟨decide_eq_true ?_, h.2⟩
  simp only [rightAt]
  omega
theorem rightL_fits (zs : List Int) (n : Nat) : ∀ x ∈ rightL zs n, fitsL x = true ∧ x.2 < 1000000 := by
  intro x hx
  obtain ⟨i, _, rfl⟩ := List.mem_map.1 hx
  exact rightAt_fits zs i

theorem cells_new (w : World) (cs : Array Value) (E : TypeId) (j : Nat) (u : Value) (h : cs.toList[j]? = some u) : (w.alloc (.cells cs E)).cell? ((⟨w.heap.size, 0, none⟩ : Addr).add j) = some u := by
  rw [show (⟨w.heap.size, 0, none⟩ : Addr).add j = ⟨w.heap.size, j, none⟩ by cases j <;> simp [Addr.add]]
  simp only [World.cell?, World.alloc, Array.getElem?_push, if_true]
  simpa using h

set_option maxHeartbeats 4000000 in
set_option maxRecDepth 100000 in
theorem right_calls {w : World} (a : Option Addr) (len cap : Nat) (zs : List Int) (hz : IsRows 4 w a len cap zs) (hl : len ≤ 20) :
    Calls Tryd.prog 22 #[.slice a len cap] w fun e w' => Below w.heap.size w w' ∧ ∃ v, e = .returned v ∧ OwnL 52 w.heap.size w' v (rightL zs len) := by
  have HZ := Lib.hid hz
  have hmx : cap ≤ maxLen := by
    rcases hz with ⟨_, _, h, _⟩ | ⟨_, _, _, h, _⟩
    · rw [h]; unfold maxLen; omega
    · exact h
  have hlc : len ≤ cap := by rcases hz with ⟨_, h1, h, _⟩ | ⟨_, _, h, _⟩ <;> omega
  unfold maxLen at hmx
  clear hz
  go_enter Tryd.func22, Tryd.ntmps22
  go_wp2_with fail
  go_loopw [4, 3] (fun i u wq => ∃ k : Nat, k ≤ len ∧ i = .int .i64 k ∧ Hid (OwnL 52 w.heap.size wq u (rightL zs k)) ∧ Hid (Below w.heap.size w wq)) (fun i _ _ => len - (intOf i).toNat)
  case atStart => exact ⟨0, Nat.zero_le _, rfl, OwnL.nil _ _ _, Below.refl _ _⟩
  case round =>
    obtain ⟨k, hk, rfl, hO, hB⟩ := hrel
    by_cases hkl : k < len
    · obtain ⟨b, off, rfl, hb, hlz, hlc', hcm, hcell, hwf⟩ := HZ.out.open (by decide) (by omega)
      have hx0 : wr.cell? ⟨b, off + k * 4, none⟩ = some (.int .i64 (zs.getD (k * 4) 0)) := (hB.out.cell (p := ⟨b, off + k * 4, none⟩) hb).trans (hcell (k * 4) (by omega))
      have hx1 : wr.cell? ⟨b, off + k * 4 + 1, none⟩ = some (.int .i64 (zs.getD (k * 4 + 1) 0)) := (hB.out.cell (p := ⟨b, off + (k * 4 + 1), none⟩) hb).trans (hcell (k * 4 + 1) (by omega))
      have hx2 : wr.cell? ⟨b, off + k * 4 + 2, none⟩ = some (.int .i64 (zs.getD (k * 4 + 2) 0)) := (hB.out.cell (p := ⟨b, off + (k * 4 + 2), none⟩) hb).trans (hcell (k * 4 + 2) (by omega))
      have hx3 : wr.cell? ⟨b, off + k * 4 + 3, none⟩ = some (.int .i64 (zs.getD (k * 4 + 3) 0)) := (hB.out.cell (p := ⟨b, off + (k * 4 + 3), none⟩) hb).trans (hcell (k * 4 + 3) (by omega))
      have HM : Hid (rightAt zs k = ((zs.getD (k * 4) 0 % 6 + 1, zs.getD (k * 4 + 1) 0 % 6 + 1, zs.getD (k * 4 + 2) 0 % 33), absR (zs.getD (k * 4 + 3) 0) 1000000)) := rfl
      clear hcell hwf
      generalize zs.getD (k * 4) 0 = y0 at hx0 HM
      generalize zs.getD (k * 4 + 1) 0 = y1 at hx1 HM
      generalize zs.getD (k * 4 + 2) 0 = y2 at hx2 HM
      generalize zs.getD (k * 4 + 3) 0 = y3 at hx3 HM
      have htm' : (if y3.tmod 1000000 < 0 then -(y3.tmod 1000000) else y3.tmod 1000000) = absR y3 1000000 := rfl
      generalize absR y3 1000000 = av at htm' HM
      have htl := Int.tmod_lt_of_pos y3 (show (0 : Int) < 1000000 by omega)
      have htg := Int.lt_tmod_of_pos y3 (show (0 : Int) < 1000000 by omega)
      have hsr := hB.out.size
      have hbr : b < wr.heap.size := Nat.lt_of_lt_of_le hb hsr
      generalize htq : y3.tmod 1000000 = tq at htm' htl htg
      have hw0 : IntKind.i64.wrap (y0 % 6 + 1) = y0 % 6 + 1 := IntWalk.i64_in _ (by omega)
      have hw1 : IntKind.i64.wrap (y1 % 6 + 1) = y1 % 6 + 1 := IntWalk.i64_in _ (by omega)
      rcases (show (tq < 0 ∧ av = -tq) ∨ (¬ tq < 0 ∧ av = tq) by split at htm' <;> omega) with ⟨hq, hqa⟩ | ⟨hq, hqa⟩
      · clear htm'
        subst hqa
        go_wp2_with fail
        go_region_held3 (fun w' => w'.cell? ⟨b, off + k * 4, none⟩ = some (.int .i64 y0) ∧ w'.cell? ⟨b, off + k * 4 + 1, none⟩ = some (.int .i64 y1) ∧ w'.cell? ⟨b, off + k * 4 + 2, none⟩ = some (.int .i64 y2) ∧ b < w'.heap.size)
          ((repeat' apply And.intro) <;> (first | assumption | go_simp | (simp; done) | (simp; omega)))
          (first
            | (go_at_call 16; refine (number_calls _ _ (by decide) (by decide) _).mono ?_; rintro e w1 ⟨rfl, rfl⟩)
            | (refine step_appL (by rfl) (.tmp 22) (.tmp 45) 41 (by rfl) 52 Tryd.underlying41 (by rfl) infoLine w.heap.size _ (rightL zs k) [((y0 % 6 + 1, y1 % 6 + 1, y2 % 33), -tq)] (by rfl) (OwnL.drew (OwnL.alloc hO.out _)) ⟨wr.heap.size, 0, none⟩ 1 1 (by rfl) (by rfl) (fun j u hj => by exact cells_new wr _ _ j u hj) (by rw [rightL_len]; simp; omega) (by simp; omega) ?_; intro v' w3 hO3 hk3; have hz3 := hk3.size; have hbk := (OwnL.drew (OwnL.alloc hO.out (Obj.cells #[Value.int IntKind.i64 (y0 % 6 + 1), Value.int IntKind.i64 (y1 % 6 + 1), Value.int IntKind.i64 (y2 % 33), Value.int IntKind.i64 (-tq)] 52))).block; have hx0' := (hk3.cell (x := ⟨b, off + k * 4, none⟩) (by simp; omega) (fun e => by have := (hbk b e).1; omega)).trans (show _ = some (Value.int .i64 y0) by go_simp); have hx1' := (hk3.cell (x := ⟨b, off + k * 4 + 1, none⟩) (by simp; omega) (fun e => by have := (hbk b e).1; omega)).trans (show _ = some (Value.int .i64 y1) by go_simp); have hx2' := (hk3.cell (x := ⟨b, off + k * 4 + 2, none⟩) (by simp; omega) (fun e => by have := (hbk b e).1; omega)).trans (show _ = some (Value.int .i64 y2) by go_simp); have hb3 : b < w3.heap.size := by simp at hz3; omega)
            | fail)
        have HO3 : Hid (OwnL 52 w.heap.size w3 v' (rightL zs (k + 1))) := by unfold Hid; rw [rightL_snoc, HM.out]; exact hO3
        have HB3 : Hid (Below w.heap.size w w3) := Below.trans (show Below w.heap.size w _ by have := hB.out; (repeat (first | exact Below.refl _ _ | assumption | refine Below.drew ?_ | refine below_many ?_ _ | refine Below.alloc ?_ (by first | (simp; done) | (simp; omega) | omega) _ | refine Below.setCell ?_ (by first | (simp; done) | (simp; omega) | omega) _))) (hk3.below (by simp; omega) (fun g hg e => by have := (hbk g e).1; omega))
        clear hO3 hk3 hbk hO hB hx0' hx1' hx2'
        go_wp2_with fail
        go_roundw
        case rel => exact ⟨k + 1, by omega, by go_num, HO3, HB3⟩
        case measure => simp [intOf]; omega
      · clear htm'
        subst hqa
        go_wp2_with fail
        go_region_held3 (fun w' => w'.cell? ⟨b, off + k * 4, none⟩ = some (.int .i64 y0) ∧ w'.cell? ⟨b, off + k * 4 + 1, none⟩ = some (.int .i64 y1) ∧ w'.cell? ⟨b, off + k * 4 + 2, none⟩ = some (.int .i64 y2) ∧ b < w'.heap.size)
          ((repeat' apply And.intro) <;> (first | assumption | go_simp | (simp; done) | (simp; omega)))
          (first
            | (go_at_call 16; refine (number_calls _ _ (by decide) (by decide) _).mono ?_; rintro e w1 ⟨rfl, rfl⟩)
            | (refine step_appL (by rfl) (.tmp 22) (.tmp 45) 41 (by rfl) 52 Tryd.underlying41 (by rfl) infoLine w.heap.size _ (rightL zs k) [((y0 % 6 + 1, y1 % 6 + 1, y2 % 33), av)] (by rfl) (OwnL.drew (OwnL.alloc hO.out _)) ⟨wr.heap.size, 0, none⟩ 1 1 (by rfl) (by rfl) (fun j u hj => by exact cells_new wr _ _ j u hj) (by rw [rightL_len]; simp; omega) (by simp; omega) ?_; intro v' w3 hO3 hk3; have hz3 := hk3.size; have hbk := (OwnL.drew (OwnL.alloc hO.out (Obj.cells #[Value.int IntKind.i64 (y0 % 6 + 1), Value.int IntKind.i64 (y1 % 6 + 1), Value.int IntKind.i64 (y2 % 33), Value.int IntKind.i64 (av)] 52))).block; have hx0' := (hk3.cell (x := ⟨b, off + k * 4, none⟩) (by simp; omega) (fun e => by have := (hbk b e).1; omega)).trans (show _ = some (Value.int .i64 y0) by go_simp); have hx1' := (hk3.cell (x := ⟨b, off + k * 4 + 1, none⟩) (by simp; omega) (fun e => by have := (hbk b e).1; omega)).trans (show _ = some (Value.int .i64 y1) by go_simp); have hx2' := (hk3.cell (x := ⟨b, off + k * 4 + 2, none⟩) (by simp; omega) (fun e => by have := (hbk b e).1; omega)).trans (show _ = some (Value.int .i64 y2) by go_simp); have hb3 : b < w3.heap.size := by simp at hz3; omega)
            | fail)
        have HO3 : Hid (OwnL 52 w.heap.size w3 v' (rightL zs (k + 1))) := by unfold Hid; rw [rightL_snoc, HM.out]; exact hO3
        have HB3 : Hid (Below w.heap.size w w3) := Below.trans (show Below w.heap.size w _ by have := hB.out; (repeat (first | exact Below.refl _ _ | assumption | refine Below.drew ?_ | refine below_many ?_ _ | refine Below.alloc ?_ (by first | (simp; done) | (simp; omega) | omega) _ | refine Below.setCell ?_ (by first | (simp; done) | (simp; omega) | omega) _))) (hk3.below (by simp; omega) (fun g hg e => by have := (hbk g e).1; omega))
        clear hO3 hk3 hbk hO hB hx0' hx1' hx2'
        go_wp2_with fail
        go_roundw
        case rel => exact ⟨k + 1, by omega, by go_num, HO3, HB3⟩
        case measure => simp [intOf]; omega
    · obtain rfl : k = len := by omega
      go_wp2_with fail
      go_ret
      exact ⟨hB.out, _, rfl, hO.out⟩

end Go.Proofs.YtclhajcphnpgjaaDoor
