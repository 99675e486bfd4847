/- Package root: Load. -/
import Derived.Test.YtehacchacgfjlaaDoorRoot5
import Derived.Deep.RegionHeld3
namespace Go.Proofs.YtehacchacgfjlaaDoor
open Go.Maps
open Go Go.RowKit
set_option linter.unusedSimpArgs false
set_option linter.unusedVariables false

/-- The better of a root and what a sector says. -/
def bestOf (b : Int × List Int) (s : Option (Int × List Int)) : Int × List Int :=
  match s with
  | some r => if b.1 < r.1 then r else b
  | none => b
def bestK (f : Int → List Int) : Nat → Int × List Int
  | 0 => (0, [])
  | k + 1 => bestOf (bestK f k) (readL (f (k : Int)))
/-- The root that two sectors say. -/
def loadL (f : Int → List Int) : Int × List Int := bestOf (bestOf (0, []) (readL (f 0))) (readL (f 1))
theorem bestK_2 (f : Int → List Int) : bestK f 2 = loadL f := rfl
theorem bestK_range (f : Int → List Int) (k : Nat) : 0 ≤ (bestK f k).1 ∧ (bestK f k).1 ≤ 1099511627776 := by
  induction k with
  | zero => exact ⟨Int.le_refl 0, by show (0 : Int) ≤ 1099511627776; decide⟩
  | succ k ih =>
    unfold bestK bestOf
    cases h : readL (f (k : Int)) with
    | none => exact ih
    | some r =>
      have := (readL_some (e := r.1) (l := r.2) h).1.1
      simp only
      split
      · exact ⟨by have := this.1; omega, this.2⟩
      · exact ih
/-- The best root so far, in the struct at block b5. -/
structure LdSt (w0 wq : World) (b2 b5 : Nat) (b : Int × List Int) (vl : Value) : Prop where
  rd : RdK .i64 wq vl b.2
  own : ∀ g, vl.ownBlock = some g → b5 < g
  c0 : wq.cell? ⟨b5, 0, none⟩ = some (.int .i64 b.1)
  c1 : wq.cell? ⟨b5, 1, none⟩ = some vl
  f : ∀ o, wq.frozen? ⟨b5, o, none⟩ = false
  r0 : wq.cell? ⟨b2, 0, none⟩ = some (.int .i64 0)
  r1 : wq.cell? ⟨b2, 1, none⟩ = some (.slice none 0 0)
  rf : ∀ o, wq.frozen? ⟨b2, o, none⟩ = false
  ne : b2 < b5
  lt : b5 < wq.heap.size
  bel : Below w0.heap.size w0 wq
theorem LdSt.below {w0 wq wn : World} {b2 b5 : Nat} {b : Int × List Int} {vl : Value} (h : LdSt w0 wq b2 b5 b vl) (k : Below wq.heap.size wq wn) : LdSt w0 wn b2 b5 b vl := by
  have h5 := h.lt
  have h2 : b2 < wq.heap.size := Nat.lt_trans h.ne h5
  exact ⟨h.rd.below k, h.own, (k.cell (p := ⟨b5, 0, none⟩) h5).trans h.c0, (k.cell (p := ⟨b5, 1, none⟩) h5).trans h.c1, fun o => (k.frozen (p := ⟨b5, o, none⟩) h5).trans (h.f o), (k.cell (p := ⟨b2, 0, none⟩) h2).trans h.r0, (k.cell (p := ⟨b2, 1, none⟩) h2).trans h.r1, fun o => (k.frozen (p := ⟨b2, o, none⟩) h2).trans (h.rf o), h.ne, Nat.lt_of_lt_of_le h5 k.size, h.bel.trans (k.mono h.bel.size)⟩
section
variable {lo : Nat} {w w' : World} {d fb pb n : Nat} {f : Int → List Int} {P : PenL} {calls fuse : Int} {down : Bool}
set_option maxHeartbeats 4000000 in
set_option maxRecDepth 100000 in
theorem load_own {ks : List Nat} {B : Nat} {p : Nat → Addr} (hE : Errs ks B p w) (hk2 : 2 ∈ ks) (hk4 : 4 ∈ ks) (h : DA lo w d fb pb n f P calls fuse false) (hn : n ≤ 8192) (hn2 : 2 ≤ n) (hb : ∀ i, isBytes (rdS f P i)) :
    Calls Tryd.prog 37 #[.pointer (some ⟨d, 0, none⟩)] w fun r w' => Below w.heap.size w w' ∧ ∃ vl, r = .returned (.tuple #[rootV (loadL (rdS f P)).1 vl, .bool (decide (0 < (loadL (rdS f P)).1)), .nilIface]) ∧ RdK .i64 w' vl (loadL (rdS f P)).2 ∧ ∀ g, vl.ownBlock = some g → w.heap.size < g := by
  have HE := Lib.hid hE
  have HD := Lib.hid h
  have HBy := Lib.hid hb
  clear hE h hb
  go_enter Tryd.func37, Tryd.ntmps37
  go_wp2_with fail
  have HS0 : Hid (LdSt w ((w.alloc (.cells #[.int .i64 0, .slice none 0 0] 48)).alloc (.cells #[.int .i64 0, .slice none 0 0] 48)) w.heap.size (w.heap.size + 1) (bestK (rdS f P) 0) (.slice none 0 0)) := by
    have hz : (w.alloc (.cells #[.int .i64 0, .slice none 0 0] 48)).heap.size = w.heap.size + 1 := by simp
    have hb1 : Below (w.heap.size + 1) (w.alloc (.cells #[.int .i64 0, .slice none 0 0] 48)) ((w.alloc (.cells #[.int .i64 0, .slice none 0 0] 48)).alloc (.cells #[.int .i64 0, .slice none 0 0] 48)) := by rw [← hz]; exact (Below.refl _ _).alloc (Nat.le_refl _) _
    have e5 : ∀ o, ((w.alloc (.cells #[.int .i64 0, .slice none 0 0] 48)).alloc (.cells #[.int .i64 0, .slice none 0 0] 48)).cell? ⟨w.heap.size + 1, o, none⟩ = (#[.int .i64 0, .slice none 0 0] : Array Value)[o]? := fun o => by rw [← hz]; exact cell_new _ _ _ o
    have f5 : ∀ o, ((w.alloc (.cells #[.int .i64 0, .slice none 0 0] 48)).alloc (.cells #[.int .i64 0, .slice none 0 0] 48)).frozen? ⟨w.heap.size + 1, o, none⟩ = false := fun o => by rw [← hz]; exact frozen_new _ _ _ o
    exact ⟨.inl ⟨rfl, none, 0, rfl, by unfold maxLen; omega⟩, fun g hg => by simp [Value.ownBlock] at hg, e5 0, e5 1, f5, (hb1.cell (p := ⟨w.heap.size, 0, none⟩) (Nat.lt_succ_self _)).trans (cell_new w _ _ 0), (hb1.cell (p := ⟨w.heap.size, 1, none⟩) (Nat.lt_succ_self _)).trans (cell_new w _ _ 1), fun o => (hb1.frozen (p := ⟨w.heap.size, o, none⟩) (Nat.lt_succ_self _)).trans (frozen_new w _ _ o), Nat.lt_succ_self _, by simp, by (repeat (first | exact Below.refl _ _ | assumption | refine Below.drew ?_ | refine below_many ?_ _ | refine Below.alloc ?_ (by first | (simp; done) | (simp; omega) | omega) _ | refine Below.setCell ?_ (by first | (simp; done) | (simp; omega) | omega) _))⟩
  obtain ⟨b2, hb2⟩ : ∃ b2, b2 = w.heap.size := ⟨_, rfl⟩
  obtain ⟨b5, hb5⟩ : ∃ b5, b5 = w.heap.size + 1 := ⟨_, rfl⟩
  have HB25 : Hid (b2 = w.heap.size ∧ b5 = w.heap.size + 1) := ⟨hb2, hb5⟩
  rw [← hb5, ← hb2] at HS0
  rw [← hb5, ← hb2]
  clear hb2 hb5
  go_loopw [11] (fun i wq => ∃ (k : Nat) (vl : Value), k ≤ 2 ∧ i = .int .i64 k ∧ Hid (LdSt w wq b2 b5 (bestK (rdS f P) k) vl)) (fun i _ => 2 - (intOf i).toNat)
  case atStart => exact ⟨0, _, by decide, rfl, HS0⟩
  case round =>
    obtain ⟨k, vl, hk, rfl, hS⟩ := hrel
    clear HS0
    by_cases hkl : k < 2
    · have hD := HD.out.below hS.out.bel
      have HDk := Lib.hid hD
      clear hD
      go_wp2_with fail
      refine (da_read HDk.out hn (k : Int) (by omega) (by omega)).mono ?_
      rintro r w1 ⟨v1, rfl, hO, hb1⟩
      obtain ⟨hR1, a1, c1, rfl⟩ := rdB_of_own hO (HDk.out.len _).2
      have HR1 := Lib.hid hR1
      have HS1 := Lib.hid (hS.out.below hb1)
      clear hO hb1 hR1 hS
      go_wp2_with fail
      refine (read_calls (HE.out.below (HS1.out.bel.mono HE.out.size)) hk2 hk4 HR1.out (HBy.out _)).mono ?_
      rintro r w2 ⟨hb2, hcase⟩
      have HS2 := Lib.hid (HS1.out.below hb2)
      have hz2 := hb2.size
      clear hb2
      rcases hcase with ⟨e, l, vr, hre, rfl, hrv, hrg⟩ | ⟨hre, rfl⟩
      · have HRV := Lib.hid hrv
        have HRG := Lib.hid hrg
        have HRe := Lib.hid hre
        have hS2 := HS2.out
        have s0 := hS2.c0
        have s1 := hS2.c1
        have hl2 := hS2.lt
        have f0 := hS2.f 0
        have f1 := hS2.f 1
        obtain ⟨av, cv, hvr, _, _⟩ := hrv.len
        clear hrv hrg hre hS2
        by_cases hgt : (bestK (rdS f P) k).1 < e
        · have hb3 : Below w2.heap.size w2 (w2.alloc (.cells #[.int .i64 e, vr] 48)) := (Below.refl _ _).alloc (Nat.le_refl _) _
          have HBk : Hid (bestK (rdS f P) (k + 1) = (e, l)) := by
            unfold Hid
            rw [bestK, HRe.out]
            unfold bestOf
            simp only
            rw [if_pos hgt]
          have HS3 : Hid (LdSt w (((w2.alloc (.cells #[.int .i64 e, vr] 48)).setCell ⟨b5, 0, none⟩ (.int .i64 e)).setCell ⟨b5, 1, none⟩ vr) b2 b5 (bestK (rdS f P) (k + 1)) vr) := by
            have h3 := HS2.out.below hb3
            unfold Hid
            rw [HBk.out]
            have k3 := (keep_setCell (w2.alloc (.cells #[.int .i64 e, vr] 48)) ⟨b5, 0, none⟩ (.int .i64 e)).trans (keep_setCell _ ⟨b5, 1, none⟩ vr)
            have hn5 : ¬ b2 = b5 := by have := h3.ne; omega
            have h2lt : b2 < (w2.alloc (.cells #[.int .i64 e, vr] 48)).heap.size := Nat.lt_trans h3.ne h3.lt
            have hge : ∀ g, vr.ownBlock = some g → b5 < g := fun g hg => by have h1 := HRG.out g hg; have h2 := HS1.out.lt; omega
            refine ⟨(HRV.out.below hb3).keep k3 (fun g hg e => by have := hge g hg; simp only at e; omega), hge, ?_, World.cell?_setCell_same' _ _ _ (by rw [cell_setCell_other (by decide), h3.c1]; rfl), fun o => by rw [frozen_setCell, frozen_setCell]; exact h3.f o, (k3.cell (x := ⟨b2, 0, none⟩) h2lt hn5).trans h3.r0, (k3.cell (x := ⟨b2, 1, none⟩) h2lt hn5).trans h3.r1, fun o => (k3.frozen (x := ⟨b2, o, none⟩) h2lt hn5).trans (h3.rf o), h3.ne, by simp [World.setCell]; have := h3.lt; simpa using this, ?_⟩
            · rw [cell_setCell_other (by decide)]
              exact World.cell?_setCell_same' _ _ _ (by rw [h3.c0]; rfl)
            · have := HB25.out
              exact (h3.bel.setCell (by simp only; omega) _).setCell (by simp only; omega) _
          have hz : (w2.setCell ⟨b5, 0, none⟩ (.int .i64 e)).heap.size = w2.heap.size := by simp [World.setCell]
          rw [World.setCell_alloc_past _ _ _ _ hl2, World.setCell_alloc_past _ _ _ _ (by rw [hz]; exact hl2)] at HS3
          clear hz hb3
          subst hvr
          go_wp2_with fail
          go_roundw
          case rel => exact ⟨k + 1, _, by omega, by go_num, HS3⟩
          case measure => simp [intOf]; omega
        · have hng : decide ((bestK (rdS f P) k).1 < e) = false := decide_eq_false hgt
          have HS3 : Hid (LdSt w (w2.alloc (.cells #[.int .i64 e, vr] 48)) b2 b5 (bestK (rdS f P) (k + 1)) vl) := by
            unfold Hid
            rw [bestK, HRe.out]
            unfold bestOf
            simp only
            rw [if_neg hgt]
            exact HS2.out.below ((Below.refl _ _).alloc (Nat.le_refl _) _)
          subst hvr
          go_wp2_with fail
          go_roundw
          case rel => exact ⟨k + 1, vl, by omega, by go_num, HS3⟩
          case measure => simp [intOf]; omega
      · have HRe := Lib.hid hre
        have hS2 := HS2.out
        have s0 := hS2.c0
        have s1 := hS2.c1
        have hl2 := hS2.lt
        have HS3 : Hid (LdSt w (w2.alloc (.cells #[.int .i64 0, .slice none 0 0] 48)) b2 b5 (bestK (rdS f P) (k + 1)) vl) := by
          unfold Hid
          rw [bestK, HRe.out]
          exact hS2.below ((Below.refl _ _).alloc (Nat.le_refl _) _)
        clear hre hS2
        unfold noRoot
        go_wp2_with fail
        go_roundw
        case rel => exact ⟨k + 1, vl, by omega, by go_num, HS3⟩
        case measure => simp [intOf]; omega
    · obtain rfl : k = 2 := by omega
      have hS2 := hS.out
      obtain ⟨e, l, hbl⟩ : ∃ e l, loadL (rdS f P) = (e, l) := ⟨_, _, rfl⟩
      rw [bestK_2, hbl] at hS2
      have HBL := Lib.hid hbl
      clear hbl
      have HS2 := Lib.hid hS2
      have s0 := hS2.c0
      have s1 := hS2.c1
      have r0 := hS2.r0
      have r1 := hS2.r1
      have rf0 := hS2.rf 0
      have rf1 := hS2.rf 1
      have hl2 := hS2.lt
      have hne := hS2.ne
      obtain ⟨av, cv, hvl, _, hcv⟩ := hS2.rd.len
      simp only at hvl s0
      subst hvl
      clear hS hS2
      have hnb : ¬ b5 = b2 := by omega
      have k3 := (Keep.of_below (S := fun x => x = b2) (show Below wr.heap.size wr wr.drew from (Below.refl _ _).drew)).trans ((keep_setCell wr.drew ⟨b2, 0, none⟩ (.int .i64 e)).trans (keep_setCell _ ⟨b2, 1, none⟩ (.slice av l.length cv)))
      have HKa : wr.cell? ⟨b5, 0, none⟩ = some (.int .i64 e) ∧ wr.cell? ⟨b5, 1, none⟩ = some (.slice av l.length cv) := ⟨s0, s1⟩
      have HKb : Hid (((wr.drew.setCell ⟨b2, 0, none⟩ (.int .i64 e)).setCell ⟨b2, 1, none⟩ (.slice av l.length cv)).cell? ⟨b5, 0, none⟩ = some (.int .i64 e) ∧ ((wr.drew.setCell ⟨b2, 0, none⟩ (.int .i64 e)).setCell ⟨b2, 1, none⟩ (.slice av l.length cv)).cell? ⟨b5, 1, none⟩ = some (.slice av l.length cv)) := ⟨(k3.cell (x := ⟨b5, 0, none⟩) hl2 hnb).trans s0, (k3.cell (x := ⟨b5, 1, none⟩) hl2 hnb).trans s1⟩
      have HK3 := Lib.hid k3
      clear k3
      go_wp2_with fail
      go_region_held3 (fun wq => wq.cell? ⟨b5, 0, none⟩ = some (.int .i64 e) ∧ wq.cell? ⟨b5, 1, none⟩ = some (.slice av l.length cv))
        (first | exact HKb.out | exact HKa)
        (fail)
      all_goals
        go_wp2_with fail
        rw [HBL.out]
        refine bodyPost_ret (v := .tuple #[rootV e (.slice av l.length cv), .bool (decide (0 < e)), .nilIface]) (by simp [results, Tryd.results37, go_sem, r0, r1]) rfl ⟨?_, _, rfl, ?_, fun g hg => by have := HS2.out.own g hg; have := HB25.out; omega⟩
        · have h1 := HS2.out.bel
          have h2 := HB25.out
          exact Below.drew ((h1.setCell (by simp only; omega) _).setCell (by simp only; omega) _)
        · have k4 := (keep_setCell wr ⟨b2, 0, none⟩ (.int .i64 e)).trans (keep_setCell _ ⟨b2, 1, none⟩ (.slice av l.length cv))
          have h4 := HS2.out.rd.keep k4 (fun g hg e => by have := HS2.out.own g hg; simp only at e; omega)
          exact h4.below (Below.refl _ _).drew
theorem load_ok {ks : List Nat} {B : Nat} {p : Nat → Addr} (hE : Errs ks B p w) (hk2 : 2 ∈ ks) (hk4 : 4 ∈ ks) (h : DA lo w d fb pb n f P calls fuse false) (hn : n ≤ 8192) (hn2 : 2 ≤ n) (hb : ∀ i, isBytes (rdS f P i)) :
    Calls Tryd.prog 37 #[.pointer (some ⟨d, 0, none⟩)] w fun r w' => Below w.heap.size w w' ∧ ∃ vl, r = .returned (.tuple #[rootV (loadL (rdS f P)).1 vl, .bool (decide (0 < (loadL (rdS f P)).1)), .nilIface]) ∧ RdK .i64 w' vl (loadL (rdS f P)).2 :=
  (load_own hE hk2 hk4 h hn hn2 hb).mono fun _ _ ⟨h1, v, h2, h3, _⟩ => ⟨h1, v, h2, h3⟩
end
end Go.Proofs.YtehacchacgfjlaaDoor
