/- The walk of pledgelaw16.CapsOver: it returns true, and writes nothing that was there. -/
import Derived.Test.YtclhajcphnpgjaaDoorCapsBad
import Derived.Test.YtclhajcphnpgjaaDoorLines
namespace Go.Proofs.YtclhajcphnpgjaaDoor
open Go.Maps
open Go Go.RowKit
set_option linter.unusedSimpArgs false
set_option linter.unusedVariables false

/-- The first k of the lines. -/
def ovL (k : Nat) : List (G × Int) := (List.range k).map fun i : Nat => ((2, 1 + ((i : Int) % 2), (i : Int)), 1000000000000000)
theorem ovL_len (k : Nat) : (ovL k).length = k := by simp [ovL]
theorem ovL_snoc (k : Nat) : ovL (k + 1) = ovL k ++ [((2, 1 + ((k : Int) % 2), (k : Int)), 1000000000000000)] := by simp [ovL, List.range_succ]
theorem ovL_get {k i : Nat} (h : i < k) : (ovL k)[i]? = some ((2, 1 + ((i : Int) % 2), (i : Int)), 1000000000000000) := by simp [ovL, h]
theorem ovL_fits {k : Nat} (h : k ≤ 7) : ∀ x ∈ ovL k, fitsL x = true := by
  intro x hx
  obtain ⟨i, hi, rfl⟩ := List.mem_map.1 hx
  have := List.mem_range.1 hi
  exact decide_eq_true (by simp only; omega)
theorem ov_lims (v : Int) : lset [] 1 2 v = [] ∨ lset [] 1 2 v = [((1, 2), v)] := by
  unfold lset
  split
  · split
    · exact .inl (by simp [mput, mget, mdel])
    · exact .inr (by simp [mput, mget])
  · exact .inl rfl
theorem ov_sum (v : Int) {n : Nat} (h2 : 2 ≤ n) (h7 : n ≤ 7) : capR (lset [] 1 2 v) (ovL n) = .error 3 := by
  have hn : n = 2 ∨ n = 3 ∨ n = 4 ∨ n = 5 ∨ n = 6 ∨ n = 7 := by omega
  rcases ov_lims v with h | h <;> rw [h] <;> rcases hn with rfl | rfl | rfl | rfl | rfl | rfl <;> rfl
theorem ov_one (v : Int) : capR (lset [] 1 2 v) [((3, 1, 0), 1000000000000000)] = .ok 1000000000000000 := by
  rcases ov_lims v with h | h <;> rw [h] <;> rfl

theorem new_cells (w : World) (cs : Array Value) (E : TypeId) (j : Nat) (u : Value) (h : cs.toList[j]? = some u) : (w.alloc (.cells cs E)).cell? ((⟨w.heap.size, 0, none⟩ : Addr).add j) = some u := by
  rw [show (⟨w.heap.size, 0, none⟩ : Addr).add j = ⟨w.heap.size, j, none⟩ by cases j <;> simp [Addr.add]]
  simp only [World.cell?, World.alloc, Array.getElem?_push, if_true]
  simpa using h
theorem lines_set33 {E : TypeId} {base : Nat} {w : World} {L : List (G × Int)} {g cap : Nat} (h : OwnL E base w (.slice (some ⟨g, 0, none⟩) L.length cap) L) {i : Nat} {x : G × Int} (hx : L[i]? = some x) :
    LinesAt (w.setCell ⟨g, i * 4 + 2, none⟩ (.int .i64 33)) (.slice (some ⟨g, 0, none⟩) L.length cap) (L.set i ((x.1.1, x.1.2.1, 33), x.2)) := by
  have hne : L ≠ [] := by intro e; rw [e] at hx; simp at hx
  obtain ⟨g', cap', hv, _, hg, h1, h2, hc, _⟩ := h.open hne
  simp only [Value.slice.injEq, Option.some.injEq, Addr.mk.injEq, and_true, true_and] at hv
  obtain ⟨rfl, rfl⟩ := hv
  have hw : ∃ u, w.cell? ⟨g, i * 4 + 2, none⟩ = some u := ⟨_, hc _ _ (lineCells_get L i x hx).2.2.1⟩
  obtain ⟨u, hu⟩ := hw
  refine ⟨_, _, by rw [List.length_set], by rw [List.length_set]; exact h1, h2, .inr ⟨g, 0, rfl, by simpa [World.setCell] using hg, fun j y hy => ?_⟩⟩
  rw [show (0 : Nat) + j * 4 = j * 4 by omega]
  have hot : ∀ o v, o ≠ i * 4 + 2 → w.cell? ⟨g, o, none⟩ = some v → (w.setCell ⟨g, i * 4 + 2, none⟩ (.int .i64 33)).cell? ⟨g, o, none⟩ = some v := fun o v ho hv => by rw [cell_setCell_other ho]; exact hv
  have hsame : (w.setCell ⟨g, i * 4 + 2, none⟩ (.int .i64 33)).cell? ⟨g, i * 4 + 2, none⟩ = some (.int .i64 33) := by go_simp
  by_cases hij : i = j
  · subst hij
    rw [List.getElem?_set_self (List.getElem?_eq_some_iff.1 hx).1] at hy
    cases hy
    obtain ⟨c0, c1, c2, c3⟩ := lineCells_get L i x hx
    exact ⟨hot _ _ (by omega) (hc _ _ c0), hot _ _ (by omega) (hc _ _ c1), hsame, hot _ _ (by omega) (hc _ _ c3)⟩
  · rw [List.getElem?_set_ne hij] at hy
    obtain ⟨c0, c1, c2, c3⟩ := lineCells_get L j y hy
    exact ⟨hot _ _ (by omega) (hc _ _ c0), hot _ _ (by omega) (hc _ _ c1), hot _ _ (by omega) (hc _ _ c2), hot _ _ (by omega) (hc _ _ c3)⟩

set_option maxHeartbeats 4000000 in
set_option maxRecDepth 100000 in
theorem walk_CapsOver {p : Nat → Addr} {w : World} (hE : Errs (List.range 21) w.heap.size p w) (n0 n1 n2 : Int) (l0 : -9223372036854775808 ≤ n0) (u0 : n0 ≤ 9223372036854775807) (l1 : -9223372036854775808 ≤ n1) (u1 : n1 ≤ 9223372036854775807) (l2 : -9223372036854775808 ≤ n2) (u2 : n2 ≤ 9223372036854775807) :
    Calls Tryd.prog 5 #[.int .i64 n0, .int .i64 n1, .int .i64 n2] w fun e w' => e = .returned (.bool true) ∧ Below w.heap.size w w' := by
  have HE := Lib.hid hE; clear hE l0 u0 l1 u1 l2 u2
  have b0 : 0 ≤ n0 % 6 ∧ n0 % 6 < 6 := by omega
  go_enter Tryd.func5, Tryd.ntmps5
  go_wp2_with fail
  refine (first16_calls HE.out (by decide) (by decide)).mono ?_
  rintro e w1 ⟨rfl, hb1⟩
  have hs1 := hb1.size
  go_wp2_with fail
  refine (number_calls _ _ (by decide) (by decide) _).mono ?_
  rintro e w2 ⟨rfl, rfl⟩
  go_wp2_with fail
  obtain ⟨n, hn⟩ : ∃ n : Nat, (n : Int) = n0 % 6 + 2 := ⟨(n0 % 6 + 2).toNat, by omega⟩
  rw [← hn]
  have hn2 : 2 ≤ n := by omega
  have hn7 : n ≤ 7 := by omega
  clear hn b0
  refine (number_calls _ _ (by omega) (by omega) _).mono ?_
  rintro e w2 ⟨rfl, rfl⟩
  go_wp2_with fail
  obtain ⟨at_, hat⟩ : ∃ at_ : Nat, (at_ : Int) = n1 % (n : Int) := ⟨(n1 % (n : Int)).toNat, by have := Int.emod_nonneg n1 (show (n : Int) ≠ 0 by omega); omega⟩
  have hatl : at_ < n := by have := Int.emod_lt_of_pos n1 (show (0 : Int) < n by omega); omega
  rw [← hat]
  clear hat
  refine (caps_set (HE.out.below (show Below w.heap.size w _ by (repeat (first | exact Below.refl _ _ | assumption | refine Below.drew ?_ | refine below_many ?_ _ | refine Below.alloc ?_ (by first | (simp; done) | (simp; omega) | omega) _ | refine Below.setCell ?_ (by first | (simp; done) | (simp; omega) | omega) _)))) (by decide) (caps_new w1.heap.size w1) (by simp) 1 2 n2).mono ?_
  rintro e w2 ⟨rfl, hT2, hk2⟩
  have hB2 : Below w.heap.size w w2 := Below.trans (show Below w.heap.size w _ by (repeat (first | exact Below.refl _ _ | assumption | refine Below.drew ?_ | refine below_many ?_ _ | refine Below.alloc ?_ (by first | (simp; done) | (simp; omega) | omega) _ | refine Below.setCell ?_ (by first | (simp; done) | (simp; omega) | omega) _))) (hk2.below (by simp; omega) (fun k hk e => by omega))
  have hs2 : w.heap.size ≤ w2.heap.size := hB2.size
  have hb12 : w1.heap.size < w2.heap.size := hT2.lt
  have HT2 := Lib.hid hT2.at
  generalize limE p 1 2 n2 = le
  clear hT2 hk2 hb1
  go_wp2_with fail
  go_loopw [10, 9] (fun i u wq => ∃ k : Nat, k ≤ n ∧ i = .int .i64 k ∧ Hid (OwnL 52 w2.heap.size wq u (ovL k)) ∧ Hid (Below w2.heap.size w2 wq)) (fun i _ _ => n - (intOf i).toNat)
  case atStart => exact ⟨0, Nat.zero_le _, rfl, OwnL.nil _ _ _, Below.refl _ _⟩
  case round =>
    obtain ⟨k, hk, rfl, hO, hB⟩ := hrel
    by_cases hkn : k < n
    · have hkm : 0 ≤ (k : Int) % 2 ∧ (k : Int) % 2 < 2 := by omega
      have hsr := hB.out.size
      have HOk : Hid (∀ u, OwnL 52 w2.heap.size wr u (ovL k) → OwnL 52 w2.heap.size wr u (ovL k)) := fun _ h => h
      have htm : ((k : Int)).tmod 2 = (k : Int) % 2 := Int.tmod_eq_emod_of_nonneg (by omega)
      go_wp2_with (at_builtin; refine wpList_appL rfl _ _ 41 rfl 52 Tryd.underlying41 (by rfl) infoLine w2.heap.size _ (ovL k) [((2, 1 + ((k : Int) % 2), (k : Int)), 1000000000000000)] rfl (hO.out.alloc _) ⟨wr.heap.size, 0, none⟩ 1 1 rfl rfl ?c1 ?c2 ?c3 ?_)
      case c1 => exact fun j u hj => new_cells wr _ _ j u hj
      case c2 => rw [ovL_len]; simp; omega
      case c3 => simp; omega
      intro v' w3 hO3 hk3
      have HO3 : Hid (OwnL 52 w2.heap.size w3 v' (ovL (k + 1))) := by unfold Hid; rw [ovL_snoc]; exact hO3
      have hbase := (hO.out.alloc (Obj.cells #[Value.int IntKind.i64 2, Value.int IntKind.i64 (1 + (k : Int) % 2), Value.int IntKind.i64 k, Value.int IntKind.i64 1000000000000000] 52)).block
      have HB3 : Hid (Below w2.heap.size w2 w3) := Below.trans (show Below w2.heap.size w2 _ by have := hB.out; (repeat (first | exact Below.refl _ _ | assumption | refine Below.drew ?_ | refine below_many ?_ _ | refine Below.alloc ?_ (by first | (simp; done) | (simp; omega) | omega) _ | refine Below.setCell ?_ (by first | (simp; done) | (simp; omega) | omega) _))) (hk3.below (by simp; omega) (fun g hg e => by have := (hbase g e).1; omega))
      clear hO3 hk3 hbase hO hB
      go_wp2_with fail
      go_roundw
      case rel => exact ⟨k + 1, by omega, by go_num, HO3, HB3⟩
      case measure => simp [intOf]; omega
    · obtain rfl : k = n := by omega
      clear hk hkn
      have hsr := hB.out.size
      obtain ⟨g, cap, rfl, hg1, hg2, hg3, hg4, hg5, hg6⟩ := hO.out.open (by intro e; have := ovL_len k; rw [e] at this; simp at this; omega)
      rw [ovL_len] at hg3
      have HS := Lib.hid (ov_sum n2 hn2 hn7)
      have H1 := Lib.hid (ov_one n2)
      have hBw : Below w.heap.size w wr := hB2.trans (hB.out.mono hs2)
      have HT3 := Lib.hid (HT2.out.below hB.out)
      obtain ⟨wa, hwa⟩ : ∃ wa, wa = wr := ⟨_, rfl⟩
      subst hwa
      have hlen := ovL_len k
      have hOw := hO.out
      have hLn := hO.out.lines
      rw [hlen] at hLn hOw
      have HLn := Lib.hid hLn
      have hc33 : wa.cell? ⟨g, at_ * 4 + 2, none⟩ = some (.int .i64 (at_ : Int)) := hg5 _ _ (lineCells_get _ _ _ (ovL_get hatl)).2.2.1
      have hf33 := hg6 (at_ * 4 + 2)
      have HO := Lib.hid hO.out
      have HF := Lib.hid (ovL_fits hn7)
      rw [hlen]
      clear hO hB HT2 hB2 hOw hLn hg5 hg6 hlen
      go_wp2_with fail
      refine (sum_calls (HE.out.below hBw) (by decide) HT3.out HLn.out HF.out).mono ?_
      rintro e w4 ⟨rfl, hb4⟩
      rw [HS.out]
      simp only [resV]
      have hBw4 := hBw.trans (hb4.mono hBw.size)
      have hs4 := hBw4.size
      have hd33 := (hb4.cell (p := ⟨g, at_ * 4 + 2, none⟩) hg2).trans hc33
      have he33 := (hb4.frozen (p := ⟨g, at_ * 4 + 2, none⟩) hg2).trans hf33
      have hL33 := lines_set33 (HO.out.below hb4) (ovL_get hatl)
      rw [ovL_len] at hL33
      have HL33 := Lib.hid hL33
      have HT4 := Lib.hid (HT3.out.below hb4)
      have hg4' : g < w4.heap.size := Nat.lt_of_lt_of_le hg2 hb4.size
      have hk4 := keep_setCell w4 ⟨g, at_ * 4 + 2, none⟩ (.int .i64 33)
      have hwg : w.heap.size ≤ g := by omega
      have hBs : Hid (Below w.heap.size w (w4.setCell ⟨g, at_ * 4 + 2, none⟩ (.int .i64 33))) := hBw4.trans (hk4.below hBw4.size (fun x hx e => by simp at e; omega))
      have HTs : Hid (CapsAt (w4.setCell ⟨g, at_ * 4 + 2, none⟩ (.int .i64 33)) w1.heap.size 0 (lset [] 1 2 n2)) := by
        obtain ⟨r, hc, hm⟩ := HT4.out.map
        refine ⟨r, ?_, hm.setCell hd33⟩
        rw [hk4.cell (x := ⟨w1.heap.size, 0, none⟩) (by have := HT4.out.lt; exact this) (by simp; omega)]
        exact hc
      have hg0 : (0 : Int) ≤ at_ := Int.natCast_nonneg _
      have hgk : (at_ : Int) < k := by omega
      clear hb4 hL33 hk4 hc33 hf33 HLn HO HT3 HT4 hBw hsr
      go_wp2_with fail
      refine (sum_bad (HE.out.below hBs.out) (by decide) _ HL33.out (List.getElem?_set_self (by rw [ovL_len]; exact hatl)) (decide_eq_false (by simp only; omega)) (fun j x hj hx => ?_)).mono ?_
      · rw [List.getElem?_set_ne (by omega)] at hx
        exact HF.out x (List.mem_of_getElem? hx)
      rintro e w5 ⟨hb5, nb, rfl, hA⟩
      have HT5 := Lib.hid (HTs.out.below hb5)
      have HB5 := Lib.hid (hBs.out.trans (hb5.mono hBs.out.size))
      have hB5 := HB5.out
      have hs5 := hB5.size
      have HA := Lib.hid hA
      clear hb5 hA HTs hBs hd33 he33 HL33 hBw4 hs4
      go_wp2_with fail
      refine (sum_calls (HE.out.below (show Below w.heap.size w _ by (repeat (first | exact Below.refl _ _ | assumption | refine Below.drew ?_ | refine below_many ?_ _ | refine Below.alloc ?_ (by first | (simp; done) | (simp; omega) | omega) _ | refine Below.setCell ?_ (by first | (simp; done) | (simp; omega) | omega) _)))) (by decide) (HT5.out.below (by (repeat (first | exact Below.refl _ _ | assumption | refine Below.drew ?_ | refine below_many ?_ _ | refine Below.alloc ?_ (by first | (simp; done) | (simp; omega) | omega) _ | refine Below.setCell ?_ (by first | (simp; done) | (simp; omega) | omega) _)))) (LinesAt.row w5 [((3, 1, 0), 1000000000000000)] _ _ 1 (by rfl) (by rfl) (by decide)) (by decide)).mono ?_
      rintro e w6 ⟨rfl, hb6⟩
      rw [H1.out]
      simp only [resV]
      have hb6' : Below w5.heap.size w5 w6 := Below.trans (show Below w5.heap.size w5 _ by (repeat (first | exact Below.refl _ _ | assumption | refine Below.drew ?_ | refine below_many ?_ _ | refine Below.alloc ?_ (by first | (simp; done) | (simp; omega) | omega) _ | refine Below.setCell ?_ (by first | (simp; done) | (simp; omega) | omega) _))) (hb6.mono (by simp))
      have HA6 := Lib.hid (HA.out.below hb6')
      have hB6 := hB5.trans (hb6'.mono hs5)
      clear hb6 hb6' HA HT5 hB5 HB5 hs5
      go_wp2_with fail
      refine (bare_calls _ _).mono ?_
      rintro e w7 ⟨rfl, hb7⟩
      have HA7 := Lib.hid (HA6.out.below hb7)
      have hB7 := hB6.trans (hb7.mono hB6.size)
      clear hb7 HA6 hB6
      go_wp2_with fail
      refine (same_ev (HE.out.below hB7) (k := 3) (by decide) _ _ _).mono ?_
      rintro e w8 ⟨rfl, hb8⟩
      rw [show sameF (101 + ((3 : Nat) : Int)) false 0 104 false 0 = true from rfl]
      have HA8 := Lib.hid (HA7.out.below hb8)
      have hB8 := hB7.trans (hb8.mono hB7.size)
      clear hb8 HA7 hB7
      go_wp2_with fail
      refine (placed_calls _ _ (by decide) _).mono ?_
      rintro e w9 ⟨rfl, hb9⟩
      have HA9 := Lib.hid (HA8.out.below hb9)
      have hB9 := hB8.trans (hb9.mono hB8.size)
      clear hb9 HA8 hB8
      go_wp2_with fail
      refine (same_at (HE.out.below hB9) (k := 2) (by decide) HA9.out _ _ _).mono ?_
      rintro e w10 ⟨rfl, hb10⟩
      rw [show sameF (101 + ((2 : Nat) : Int)) true (at_ : Int) 103 true (at_ : Int) = true by simp [sameF]]
      have hB10 := hB9.trans (hb10.mono hB9.size)
      clear hb10 HA9 hB9
      go_wp2_with fail
      go_ret
      exact ⟨rfl, hB10⟩

end Go.Proofs.YtclhajcphnpgjaaDoor
