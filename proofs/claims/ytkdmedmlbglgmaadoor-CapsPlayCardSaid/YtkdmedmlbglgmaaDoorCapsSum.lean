/- caps.fits, and (*caps.Caps).Sum: what it returns and what it leaves. -/
import Derived.Test.YtkdmedmlbglgmaaDoorCapsStep
namespace Go.Proofs.YtkdmedmlbglgmaaDoor
open Go.Maps
open Go Go.RowKit
set_option linter.unusedSimpArgs false
set_option linter.unusedVariables false

theorem fits_0 (c m i v : Int) (w : World) (k0 : decide (1 ≤ c) = false) :
    Calls Tryd.prog 33 #[.agg #[.int .i64 c, .int .i64 m, .int .i64 i, .int .i64 v]] w fun e w' => e = .returned (.bool false) ∧ Below w.heap.size w w' := by
  go_enter Tryd.func33, Tryd.ntmps33
  go_wp2_with (go_at_call 32; refine (capsAmount_calls _ _).mono ?_; rintro e w1 ⟨rfl, rfl⟩)
  go_ret
  exact ⟨rfl, by (repeat (first | exact Below.refl _ _ | assumption | refine Below.drew ?_ | refine below_many ?_ _ | refine Below.alloc ?_ (by first | (simp; done) | (simp; omega) | omega) _ | refine Below.setCell ?_ (by first | (simp; done) | (simp; omega) | omega) _))⟩
theorem fits_1 (c m i v : Int) (w : World) (k0 : decide (1 ≤ c) = true) (k1 : decide (c ≤ 6) = false) :
    Calls Tryd.prog 33 #[.agg #[.int .i64 c, .int .i64 m, .int .i64 i, .int .i64 v]] w fun e w' => e = .returned (.bool false) ∧ Below w.heap.size w w' := by
  go_enter Tryd.func33, Tryd.ntmps33
  go_wp2_with (go_at_call 32; refine (capsAmount_calls _ _).mono ?_; rintro e w1 ⟨rfl, rfl⟩)
  go_ret
  exact ⟨rfl, by (repeat (first | exact Below.refl _ _ | assumption | refine Below.drew ?_ | refine below_many ?_ _ | refine Below.alloc ?_ (by first | (simp; done) | (simp; omega) | omega) _ | refine Below.setCell ?_ (by first | (simp; done) | (simp; omega) | omega) _))⟩
theorem fits_2 (c m i v : Int) (w : World) (k0 : decide (1 ≤ c) = true) (k1 : decide (c ≤ 6) = true) (k2 : decide (1 ≤ m) = false) :
    Calls Tryd.prog 33 #[.agg #[.int .i64 c, .int .i64 m, .int .i64 i, .int .i64 v]] w fun e w' => e = .returned (.bool false) ∧ Below w.heap.size w w' := by
  go_enter Tryd.func33, Tryd.ntmps33
  go_wp2_with (go_at_call 32; refine (capsAmount_calls _ _).mono ?_; rintro e w1 ⟨rfl, rfl⟩)
  go_ret
  exact ⟨rfl, by (repeat (first | exact Below.refl _ _ | assumption | refine Below.drew ?_ | refine below_many ?_ _ | refine Below.alloc ?_ (by first | (simp; done) | (simp; omega) | omega) _ | refine Below.setCell ?_ (by first | (simp; done) | (simp; omega) | omega) _))⟩
theorem fits_3 (c m i v : Int) (w : World) (k0 : decide (1 ≤ c) = true) (k1 : decide (c ≤ 6) = true) (k2 : decide (1 ≤ m) = true) (k3 : decide (m ≤ 6) = false) :
    Calls Tryd.prog 33 #[.agg #[.int .i64 c, .int .i64 m, .int .i64 i, .int .i64 v]] w fun e w' => e = .returned (.bool false) ∧ Below w.heap.size w w' := by
  go_enter Tryd.func33, Tryd.ntmps33
  go_wp2_with (go_at_call 32; refine (capsAmount_calls _ _).mono ?_; rintro e w1 ⟨rfl, rfl⟩)
  go_ret
  exact ⟨rfl, by (repeat (first | exact Below.refl _ _ | assumption | refine Below.drew ?_ | refine below_many ?_ _ | refine Below.alloc ?_ (by first | (simp; done) | (simp; omega) | omega) _ | refine Below.setCell ?_ (by first | (simp; done) | (simp; omega) | omega) _))⟩
theorem fits_4 (c m i v : Int) (w : World) (k0 : decide (1 ≤ c) = true) (k1 : decide (c ≤ 6) = true) (k2 : decide (1 ≤ m) = true) (k3 : decide (m ≤ 6) = true) (k4 : decide (0 ≤ i) = false) :
    Calls Tryd.prog 33 #[.agg #[.int .i64 c, .int .i64 m, .int .i64 i, .int .i64 v]] w fun e w' => e = .returned (.bool false) ∧ Below w.heap.size w w' := by
  go_enter Tryd.func33, Tryd.ntmps33
  go_wp2_with (go_at_call 32; refine (capsAmount_calls _ _).mono ?_; rintro e w1 ⟨rfl, rfl⟩)
  go_ret
  exact ⟨rfl, by (repeat (first | exact Below.refl _ _ | assumption | refine Below.drew ?_ | refine below_many ?_ _ | refine Below.alloc ?_ (by first | (simp; done) | (simp; omega) | omega) _ | refine Below.setCell ?_ (by first | (simp; done) | (simp; omega) | omega) _))⟩
theorem fits_5 (c m i v : Int) (w : World) (k0 : decide (1 ≤ c) = true) (k1 : decide (c ≤ 6) = true) (k2 : decide (1 ≤ m) = true) (k3 : decide (m ≤ 6) = true) (k4 : decide (0 ≤ i) = true) (k5 : decide (i ≤ 32) = false) :
    Calls Tryd.prog 33 #[.agg #[.int .i64 c, .int .i64 m, .int .i64 i, .int .i64 v]] w fun e w' => e = .returned (.bool false) ∧ Below w.heap.size w w' := by
  go_enter Tryd.func33, Tryd.ntmps33
  go_wp2_with (go_at_call 32; refine (capsAmount_calls _ _).mono ?_; rintro e w1 ⟨rfl, rfl⟩)
  go_ret
  exact ⟨rfl, by (repeat (first | exact Below.refl _ _ | assumption | refine Below.drew ?_ | refine below_many ?_ _ | refine Below.alloc ?_ (by first | (simp; done) | (simp; omega) | omega) _ | refine Below.setCell ?_ (by first | (simp; done) | (simp; omega) | omega) _))⟩
theorem fits_6 (c m i v : Int) (w : World) (k0 : decide (1 ≤ c) = true) (k1 : decide (c ≤ 6) = true) (k2 : decide (1 ≤ m) = true) (k3 : decide (m ≤ 6) = true) (k4 : decide (0 ≤ i) = true) (k5 : decide (i ≤ 32) = true) :
    Calls Tryd.prog 33 #[.agg #[.int .i64 c, .int .i64 m, .int .i64 i, .int .i64 v]] w fun e w' => e = .returned (.bool (isAmt v)) ∧ Below w.heap.size w w' := by
  go_enter Tryd.func33, Tryd.ntmps33
  go_wp2_with (go_at_call 32; refine (capsAmount_calls _ _).mono ?_; rintro e w1 ⟨rfl, rfl⟩)
  go_ret
  exact ⟨rfl, by (repeat (first | exact Below.refl _ _ | assumption | refine Below.drew ?_ | refine below_many ?_ _ | refine Below.alloc ?_ (by first | (simp; done) | (simp; omega) | omega) _ | refine Below.setCell ?_ (by first | (simp; done) | (simp; omega) | omega) _))⟩
theorem fits_calls (c m i v : Int) (w : World) :
    Calls Tryd.prog 33 #[.agg #[.int .i64 c, .int .i64 m, .int .i64 i, .int .i64 v]] w fun e w' => e = .returned (.bool (fitsL ((c, m, i), v))) ∧ Below w.heap.size w w' := by
  by_cases h0 : 1 ≤ c
  rotate_left
  · rw [show fitsL ((c, m, i), v) = false from decide_eq_false (by simp only; omega)]
    exact fits_0 c m i v w  (decide_eq_false h0)
  by_cases h1 : c ≤ 6
  rotate_left
  · rw [show fitsL ((c, m, i), v) = false from decide_eq_false (by simp only; omega)]
    exact fits_1 c m i v w (decide_eq_true h0) (decide_eq_false h1)
  by_cases h2 : 1 ≤ m
  rotate_left
  · rw [show fitsL ((c, m, i), v) = false from decide_eq_false (by simp only; omega)]
    exact fits_2 c m i v w (decide_eq_true h0) (decide_eq_true h1) (decide_eq_false h2)
  by_cases h3 : m ≤ 6
  rotate_left
  · rw [show fitsL ((c, m, i), v) = false from decide_eq_false (by simp only; omega)]
    exact fits_3 c m i v w (decide_eq_true h0) (decide_eq_true h1) (decide_eq_true h2) (decide_eq_false h3)
  by_cases h4 : 0 ≤ i
  rotate_left
  · rw [show fitsL ((c, m, i), v) = false from decide_eq_false (by simp only; omega)]
    exact fits_4 c m i v w (decide_eq_true h0) (decide_eq_true h1) (decide_eq_true h2) (decide_eq_true h3) (decide_eq_false h4)
  by_cases h5 : i ≤ 32
  rotate_left
  · rw [show fitsL ((c, m, i), v) = false from decide_eq_false (by simp only; omega)]
    exact fits_5 c m i v w (decide_eq_true h0) (decide_eq_true h1) (decide_eq_true h2) (decide_eq_true h3) (decide_eq_true h4) (decide_eq_false h5)
  rw [show fitsL ((c, m, i), v) = isAmt v from decide_eq_decide.2 (by simp only; omega)]
  exact fits_6 c m i v w (decide_eq_true h0) (decide_eq_true h1) (decide_eq_true h2) (decide_eq_true h3) (decide_eq_true h4) (decide_eq_true h5)

/-- A slice of lines, as a value: what can be read of it. -/
def LinesAt (w : World) (v : Value) (L : List (G × Int)) : Prop :=
  ∃ a cap, v = .slice a L.length cap ∧ L.length ≤ cap ∧ cap ≤ maxLen ∧ (L = [] ∨ ∃ b off, a = some ⟨b, off, none⟩ ∧ b < w.heap.size ∧ ∀ i x, L[i]? = some x →
    w.cell? ⟨b, off + i * 4, none⟩ = some (.int .i64 x.1.1) ∧ w.cell? ⟨b, off + i * 4 + 1, none⟩ = some (.int .i64 x.1.2.1) ∧ w.cell? ⟨b, off + i * 4 + 2, none⟩ = some (.int .i64 x.1.2.2) ∧ w.cell? ⟨b, off + i * 4 + 3, none⟩ = some (.int .i64 x.2))
theorem LinesAt.below {w w' : World} {v : Value} {L : List (G × Int)} (h : LinesAt w v L) (k : Below w.heap.size w w') : LinesAt w' v L := by
  obtain ⟨a, cap, h1, h2, h2', h3 | ⟨b, off, h3, h4, h5⟩⟩ := h
  · exact ⟨a, cap, h1, h2, h2', .inl h3⟩
  · refine ⟨a, cap, h1, h2, h2', .inr ⟨b, off, h3, Nat.lt_of_lt_of_le h4 k.size, fun i x hx => ?_⟩⟩
    obtain ⟨c0, c1, c2, c3⟩ := h5 i x hx
    exact ⟨(k.cell (p := ⟨b, off + i * 4, none⟩) h4).trans c0, (k.cell (p := ⟨b, off + i * 4 + 1, none⟩) h4).trans c1, (k.cell (p := ⟨b, off + i * 4 + 2, none⟩) h4).trans c2, (k.cell (p := ⟨b, off + i * 4 + 3, none⟩) h4).trans c3⟩

/-- What Sum makes of lines that may be. -/
def capR (m : Lims) (L : List (G × Int)) : Except Nat Int := match capSum m L with | some n => .ok n | none => .error 3

theorem take_snocL {L : List (G × Int)} {k : Nat} {x : G × Int} (h : L[k]? = some x) : L.take (k + 1) = L.take k ++ [x] := by
  obtain ⟨hk, hx⟩ := List.getElem?_eq_some_iff.1 h
  rw [List.take_succ_eq_append_getElem hk, hx]
theorem fits_gwf {x : G × Int} (h : fitsL x = true) : gwf x.1 ∧ isAmt x.2 = true := by
  simp only [fitsL, decide_eq_true_eq] at h
  exact ⟨⟨i64wf (by omega) (by omega), i64wf (by omega) (by omega), i64wf (by omega) (by omega)⟩, decide_eq_true (by omega)⟩
theorem lvl_ok {cap : G → Int → Int} {to : G → G} {S0 S1 : List (G × Int)} (h : stepV cap to S0 = some S1) (hn : ∀ q ∈ S0, 0 ≤ q.2 ∧ q.2 ≤ 1000000000000000 ∧ gwf q.1) (hc : ∀ g v, 0 ≤ v → 0 ≤ cap g v) (hto : ∀ g, gwf g → gwf (to g)) :
    ∀ q ∈ S1, 0 ≤ q.2 ∧ q.2 ≤ 1000000000000000 ∧ gwf q.1 := by
  unfold stepV at h
  split at h
  · cases h
  · rename_i ho
    simp only [Bool.not_eq_true] at ho
    injection h with h
    subst h
    intro q hq
    obtain ⟨h1, h2⟩ := sumsOf_mem hq
    refine ⟨?_, ?_, ?_⟩
    · rw [h1]; exact sumBy_nonneg (lvl_nonneg to hc fun q hq => (hn q hq).1) _
    · rw [h1]; exact overM_false (by decide) ho _
    · obtain ⟨r, hr, hr'⟩ := List.mem_map.1 h2
      obtain ⟨s, hs, rfl⟩ := List.mem_map.1 hr
      rw [← hr']
      exact hto _ (hn s hs).2.2
theorem sums_ok {L : List (G × Int)} (hf : ∀ x ∈ L, fitsL x = true) (ho : overM MAXM L = false) : ∀ q ∈ sumsOf L, 0 ≤ q.2 ∧ q.2 ≤ 1000000000000000 ∧ gwf q.1 := by
  intro q hq
  obtain ⟨h1, h2⟩ := sumsOf_mem hq
  refine ⟨?_, ?_, ?_⟩
  · rw [h1]; exact sumBy_nonneg (fits_nonneg hf) _
  · rw [h1]; exact overM_false (by decide) ho _
  · obtain ⟨r, hr, hr'⟩ := List.mem_map.1 h2
    rw [← hr']
    exact (fits_gwf (hf r hr)).1
theorem perm_ok {S S0 : List (G × Int)} (h : S.Perm S0) (hn : ∀ q ∈ S0, 0 ≤ q.2 ∧ q.2 ≤ 1000000000000000 ∧ gwf q.1) : ∀ q ∈ S, 0 ≤ q.2 ∧ q.2 ≤ 1000000000000000 ∧ gwf q.1 := fun q hq => hn q (h.subset hq)

set_option maxRecDepth 100000 in
set_option maxHeartbeats 4000000 in
/-- Lines that may be. -/
theorem sum_calls {ks : List Nat} {B : Nat} {p : Nat → Addr} {w : World} (hE : Errs ks B p w) (h3 : 3 ∈ ks) {b o : Nat} {lm : Lims} (hC : CapsAt w b o lm) {v : Value} {L : List (G × Int)} (hL : LinesAt w v L) (hf : ∀ x ∈ L, fitsL x = true) :
    Calls Tryd.prog 10 #[.pointer (some ⟨b, o, none⟩), v] w fun e w' => e = .returned (resV p (capR lm L)) ∧ Below w.heap.size w w' := by
  obtain ⟨a, cap, rfl, hcap, hmx, hcells⟩ := hL
  unfold maxLen at hmx
  have hmm := @run_makeMap Tryd.prog
  have HC : Hid (L = [] ∨ ∃ b off, a = some ⟨b, off, none⟩ ∧ b < w.heap.size ∧ ∀ i x, L[i]? = some x →
    w.cell? ⟨b, off + i * 4, none⟩ = some (.int .i64 x.1.1) ∧ w.cell? ⟨b, off + i * 4 + 1, none⟩ = some (.int .i64 x.1.2.1) ∧ w.cell? ⟨b, off + i * 4 + 2, none⟩ = some (.int .i64 x.1.2.2) ∧ w.cell? ⟨b, off + i * 4 + 3, none⟩ = some (.int .i64 x.2)) := hcells
  have HE := Lib.hid hE
  have HK := Lib.hid hC
  have HF := Lib.hid hf
  clear hcells hE hC hf
  go_enter Tryd.func10, Tryd.ntmps10
  go_wp2_with fail
  go_loopw [18] (fun i wq => ∃ m : Nat, m ≤ L.length ∧ i = .int .i64 m ∧ Hid (Below w.heap.size w wq)) (fun i _ => L.length - (intOf i).toNat)
  case atStart => exact ⟨0, Nat.zero_le _, rfl, Below.refl _ _⟩
  case round =>
    obtain ⟨m, hm, rfl, hB⟩ := hrel
    by_cases hlm : m < L.length
    · obtain ⟨b', off, rfl, hb, hcell⟩ := HC.out.resolve_left (by intro e; rw [e] at hlm; simp at hlm)
      obtain ⟨x, hx⟩ : ∃ x, L[m]? = some x := ⟨_, List.getElem?_eq_getElem hlm⟩
      obtain ⟨c0, c1, c2, c3⟩ := hcell m x hx
      have hfx : Hid (fitsL ((x.1.1, x.1.2.1, x.1.2.2), x.2) = true) := HF.out x (List.mem_of_getElem? hx)
      obtain ⟨⟨x1, x2, x3⟩, x4⟩ := x
      have d0 := (hB.out.cell (p := ⟨b', off + m * 4, none⟩) hb).trans c0
      have d1 := (hB.out.cell (p := ⟨b', off + m * 4 + 1, none⟩) hb).trans c1
      have d2 := (hB.out.cell (p := ⟨b', off + m * 4 + 2, none⟩) hb).trans c2
      have d3 := (hB.out.cell (p := ⟨b', off + m * 4 + 3, none⟩) hb).trans c3
      simp only at d0 d1 d2 d3
      clear hcell c0 c1 c2 c3 hx
      go_wp2_with fail
      refine (fits_calls x1 x2 x3 x4 _).mono ?_
      rintro e w1 ⟨rfl, hb1⟩
      rw [hfx.out]
      have HB1 := Lib.hid (hB.out.trans ((((Below.refl _ _).alloc (Nat.le_refl _) _).trans (hb1.mono (by simp))).mono hB.out.size))
      clear hb1 d0 d1 d2 d3 hB
      go_wp2_with fail
      go_roundw
      case rel => exact ⟨m + 1, by omega, by go_num, HB1⟩
      case measure => simp [intOf]; omega
    · obtain rfl : m = L.length := by omega
      clear hlm hm
      obtain ⟨wa, hwa⟩ : ∃ wa, wa = wr := ⟨_, rfl⟩
      subst hwa
      have hsa := hB.out.size
      have hm0 : GrpMap (wa.alloc (Obj.map #[] 0)) (some wa.heap.size) [] := .inr ⟨_, rfl, MapAt.made wa⟩
      have HM0 := Lib.hid hm0
      clear hm0
      go_wp2_with fail
      go_loopw [35] (fun i wq => ∃ k : Nat, k ≤ L.length ∧ i = .int .i64 k ∧ Hid (GrpMap wq (some wa.heap.size) (sumsOf (L.take k))) ∧ Hid (Below w.heap.size w wq) ∧ Hid (∀ x, sumBy (L.take k) x ≤ 1000000000000000) ∧ wa.heap.size < wq.heap.size) (fun i _ => L.length - (intOf i).toNat)
      case atStart => exact ⟨0, Nat.zero_le _, rfl, HM0, by show Below _ _ _; (repeat (first | exact Below.refl _ _ | assumption | refine Below.drew ?_ | refine below_many ?_ _ | refine Below.alloc ?_ (by first | (simp; done) | (simp; omega) | omega) _ | refine Below.setCell ?_ (by first | (simp; done) | (simp; omega) | omega) _)), fun x => by simp [sumBy, sumAll], by simp⟩
      case round =>
        obtain ⟨k, hk, rfl, hM, hB2, hO, hs2⟩ := hrel
        by_cases hlk : k < L.length
        · obtain ⟨b', off, rfl, hb, hcell⟩ := HC.out.resolve_left (by intro e; rw [e] at hlk; simp at hlk)
          obtain ⟨x, hx⟩ : ∃ x, L[k]? = some x := ⟨_, List.getElem?_eq_getElem hlk⟩
          obtain ⟨c0, c1, c2, c3⟩ := hcell k x hx
          have hfx := HF.out x (List.mem_of_getElem? hx)
          have HT := Lib.hid (take_snocL hx)
          obtain ⟨⟨x1, x2, x3⟩, x4⟩ := x
          have d0 := (hB2.out.cell (p := ⟨b', off + k * 4, none⟩) hb).trans c0
          have d1 := (hB2.out.cell (p := ⟨b', off + k * 4 + 1, none⟩) hb).trans c1
          have d2 := (hB2.out.cell (p := ⟨b', off + k * 4 + 2, none⟩) hb).trans c2
          have d3 := (hB2.out.cell (p := ⟨b', off + k * 4 + 3, none⟩) hb).trans c3
          simp only at d0 d1 d2 d3
          obtain ⟨hgw, hv4⟩ := fits_gwf hfx
          have HGW := Lib.hid hgw
          have HV4 := Lib.hid hv4
          have HA1 : Hid (isAmt ((mget (sumsOf (L.take k)) (x1, x2, x3)).getD 0) = true) := by
            unfold Hid
            rw [sumsOf_getD]
            have h1 := hO.out (x1, x2, x3)
            have h2 := sumBy_nonneg (l := L.take k) (fun q hq => fits_nonneg HF.out q (List.mem_of_mem_take hq)) (x1, x2, x3)
            exact decide_eq_true (by omega)
          have HSD : Hid ((mget (sumsOf (L.take k)) (x1, x2, x3)).getD 0 = sumBy (L.take k) (x1, x2, x3)) := sumsOf_getD _ _
          have HBy : Hid (sumBy (L.take (k + 1)) (x1, x2, x3) = sumBy (L.take k) (x1, x2, x3) + x4) := by
            unfold Hid; rw [HT.out, sumBy_append, sumBy_cons, if_pos rfl, sumBy_nil]; omega
          have hsa2 := hB2.out.size
          clear hcell c0 c1 c2 c3 hx hfx hgw hv4
          go_wp2_with fail
          refine (grpAdd_calls (HE.out.below ((show Below w.heap.size w _ by have := hB2.out; (repeat (first | exact Below.refl _ _ | assumption | refine Below.drew ?_ | refine below_many ?_ _ | refine Below.alloc ?_ (by first | (simp; done) | (simp; omega) | omega) _ | refine Below.setCell ?_ (by first | (simp; done) | (simp; omega) | omega) _))).mono HE.out.size)) h3 (hM.out.alloc _) (x1, x2, x3) HGW.out x4 HA1.out HV4.out).mono ?_
          rintro e w6 (⟨g1, rfl, hM6, hK6⟩ | ⟨g1, rfl, hb6⟩)
          · have HM6 := Lib.hid hM6
            have HB6 : Hid (Below w.heap.size w w6) := Below.trans (show Below w.heap.size w _ by have := hB2.out; (repeat (first | exact Below.refl _ _ | assumption | refine Below.drew ?_ | refine below_many ?_ _ | refine Below.alloc ?_ (by first | (simp; done) | (simp; omega) | omega) _ | refine Below.setCell ?_ (by first | (simp; done) | (simp; omega) | omega) _))) (hK6.below (by simp; omega) (fun k hk e => by omega))
            have hs6 : wa.heap.size < w6.heap.size := by have := hK6.size; simp at this; omega
            have HG1 : Hid (sumBy (L.take (k + 1)) (x1, x2, x3) ≤ 1000000000000000) := by unfold Hid; rw [HBy.out, ← HSD.out]; exact g1
            clear hM6 hK6 g1 d0 d1 d2 d3 hM hB2
            go_wp2_with fail
            go_roundw
            case rel =>
              refine ⟨k + 1, by omega, by go_num, ?_, HB6, fun y => ?_, hs6⟩
              · unfold Hid; rw [HT.out, sumsOf_snoc]; exact HM6.out
              · by_cases hy : (x1, x2, x3) = y
                · rw [← hy]; exact HG1.out
                · rw [HT.out, sumBy_append, sumBy_cons, if_neg hy, sumBy_nil]
                  have := hO.out y; omega
            case measure => simp [intOf]; omega
          · have HB6 : Hid (Below w.heap.size w w6) := Below.trans (show Below w.heap.size w _ by have := hB2.out; (repeat (first | exact Below.refl _ _ | assumption | refine Below.drew ?_ | refine below_many ?_ _ | refine Below.alloc ?_ (by first | (simp; done) | (simp; omega) | omega) _ | refine Below.setCell ?_ (by first | (simp; done) | (simp; omega) | omega) _))) (hb6.mono (by simp; omega))
            have HR : Hid (resV p (capR lm L) = .tuple #[.int .i64 0, .iface 215 (.pointer (some (p 3)))]) := by
              unfold Hid capR capSum
              have h1 : overM MAXM L = true := by
                refine overM_true (x := (x1, x2, x3)) (by decide) ?_
                have h2 := sumBy_prefix (l := L.take (k + 1)) (l' := L.drop (k + 1)) (fun q hq => fits_nonneg HF.out q (List.mem_of_mem_drop hq)) (x1, x2, x3)
                rw [List.take_append_drop, HBy.out, ← HSD.out] at h2
                unfold MAXM; omega
              rw [h1]; rfl
            clear hb6 g1 d0 d1 d2 d3 hM hB2
            go_wp2_with fail
            go_ret2
            exact ⟨by rw [HR.out]; rfl, HB6.out⟩
        · obtain rfl : k = L.length := by omega
          have hov : overM MAXM L = false := overM_all (fun x => by have := hO.out x; rwa [List.take_length] at this)
          have hM' := hM.out
          rw [List.take_length] at hM'
          have HM2 := Lib.hid hM'
          have HOV := Lib.hid hov
          have hsa2 := hB2.out.size
          clear hM hM' hov hO hlk hk HM0 hsa hB
          obtain ⟨wb, hwb⟩ : ∃ wb, wb = wr := ⟨_, rfl⟩
          subst hwb
          go_wp2_with fail
          refine wp_loop_rounds 4 ?_
          rw [rounds_succ]
          go_wp2_with fail
          refine (step1_calls (HE.out.below ((show Below w.heap.size w _ by have := hB2.out; (repeat (first | exact Below.refl _ _ | assumption | refine Below.drew ?_ | refine below_many ?_ _ | refine Below.alloc ?_ (by first | (simp; done) | (simp; omega) | omega) _ | refine Below.setCell ?_ (by first | (simp; done) | (simp; omega) | omega) _))).mono HE.out.size)) h3 (HK.out.below (show Below w.heap.size w _ by have := hB2.out; (repeat (first | exact Below.refl _ _ | assumption | refine Below.drew ?_ | refine below_many ?_ _ | refine Below.alloc ?_ (by first | (simp; done) | (simp; omega) | omega) _ | refine Below.setCell ?_ (by first | (simp; done) | (simp; omega) | omega) _)))) (HM2.out.alloc _) (List.Perm.refl _) (sums_ok HF.out HOV.out)).mono ?_
          rintro e w1 ⟨hb1, ⟨hst1, rfl⟩ | ⟨n1, M1, S1, hst1, hp1, rfl, hm1, hn1⟩⟩
          · have HB1 : Hid (Below w.heap.size w w1) := Below.trans (show Below w.heap.size w _ by have := hB2.out; (repeat (first | exact Below.refl _ _ | assumption | refine Below.drew ?_ | refine below_many ?_ _ | refine Below.alloc ?_ (by first | (simp; done) | (simp; omega) | omega) _ | refine Below.setCell ?_ (by first | (simp; done) | (simp; omega) | omega) _))) (hb1.mono (by simp; omega))
            clear hb1
            have HR : Hid (resV p (capR lm L) = .tuple #[.int .i64 0, .iface 215 (.pointer (some (p 3)))]) := by
              unfold Hid capR capSum capS
              rw [HOV.out]
              simp only [Bool.false_eq_true, if_false]; rw [hst1]; simp only [Option.bind_some, Option.bind_none, Option.map_none, Option.map_some]; rfl
            rw [show ev p 3 = Value.iface 215 (.pointer (some (p 3))) from rfl]
            go_wp2_with fail
            go_ret2
            exact ⟨by rw [HR.out]; rfl, HB1.out⟩
          have HB1 : Hid (Below w.heap.size w w1) := Below.trans (show Below w.heap.size w _ by have := hB2.out; (repeat (first | exact Below.refl _ _ | assumption | refine Below.drew ?_ | refine below_many ?_ _ | refine Below.alloc ?_ (by first | (simp; done) | (simp; omega) | omega) _ | refine Below.setCell ?_ (by first | (simp; done) | (simp; omega) | omega) _))) (hb1.mono (by simp; omega))
          have q11 := (hb1.cell (p := ⟨wb.heap.size, 1, none⟩) (by simp)).trans (show _ = some (Value.func (.func 36) #[] #[]) by go_simp)
          have q12 := (hb1.cell (p := ⟨wb.heap.size, 2, none⟩) (by simp)).trans (show _ = some (Value.func (.func 37) #[] #[]) by go_simp)
          have hz1 : wb.heap.size < w1.heap.size := by have := hb1.size; simp at this; omega
          have HM1 := Lib.hid hm1
          have HO1 := Lib.hid (lvl_ok hst1 (sums_ok HF.out HOV.out) (fun _ _ h => cut_nonneg _ h) (fun _ h => gwf_to1 h))
          clear hb1 hm1 HM2 hB2
          go_wp2_with fail
          rw [rounds_succ]
          go_wp2_with fail
          refine (step2_calls (HE.out.below (HB1.out.mono HE.out.size)) h3 (HK.out.below HB1.out) HM1.out hp1 (perm_ok hp1 HO1.out)).mono ?_
          rintro e w2 ⟨hb2, ⟨hst2, rfl⟩ | ⟨n2, M2, S2, hst2, hp2, rfl, hm2, hn2⟩⟩
          · have HB2 := Lib.hid (HB1.out.trans (hb2.mono HB1.out.size))
            clear hb2
            have HR : Hid (resV p (capR lm L) = .tuple #[.int .i64 0, .iface 215 (.pointer (some (p 3)))]) := by
              unfold Hid capR capSum capS
              rw [HOV.out]
              simp only [Bool.false_eq_true, if_false]; rw [hst1]; simp only [Option.bind_some, Option.bind_none, Option.map_none, Option.map_some]; rw [hst2]; simp only [Option.bind_some, Option.bind_none, Option.map_none, Option.map_some]; rfl
            rw [show ev p 3 = Value.iface 215 (.pointer (some (p 3))) from rfl]
            go_wp2_with fail
            go_ret2
            exact ⟨by rw [HR.out]; rfl, HB2.out⟩
          have HB2 := Lib.hid (HB1.out.trans (hb2.mono HB1.out.size))
          have q22 := (hb2.cell (p := ⟨wb.heap.size, 2, none⟩) hz1).trans q12
          have hz2 : wb.heap.size < w2.heap.size := Nat.lt_of_lt_of_le hz1 hb2.size
          have HM2' := Lib.hid hm2
          have HO2 := Lib.hid (lvl_ok hst2 HO1.out (fun _ _ h => cut_nonneg _ h) (fun _ h => gwf_to2 h))
          clear hb2 hm2 q11 q12 HM1
          go_wp2_with fail
          rw [rounds_succ]
          go_wp2_with fail
          refine (step3_calls (HE.out.below (HB2.out.mono HE.out.size)) h3 (HK.out.below HB2.out) HM2'.out hp2 (perm_ok hp2 HO2.out)).mono ?_
          rintro e w3 ⟨hb3, ⟨hst3, rfl⟩ | ⟨n3, M3, S3, hst3, hp3, rfl, hm3, hn3⟩⟩
          · have HB3 := Lib.hid (HB2.out.trans (hb3.mono HB2.out.size))
            clear hb3
            have HR : Hid (resV p (capR lm L) = .tuple #[.int .i64 0, .iface 215 (.pointer (some (p 3)))]) := by
              unfold Hid capR capSum capS
              rw [HOV.out]
              simp only [Bool.false_eq_true, if_false]; rw [hst1]; simp only [Option.bind_some, Option.bind_none, Option.map_none, Option.map_some]; rw [hst2]; simp only [Option.bind_some, Option.bind_none, Option.map_none, Option.map_some]; rw [hst3]; simp only [Option.bind_some, Option.bind_none, Option.map_none, Option.map_some]; rfl
            rw [show ev p 3 = Value.iface 215 (.pointer (some (p 3))) from rfl]
            go_wp2_with fail
            go_ret2
            exact ⟨by rw [HR.out]; rfl, HB3.out⟩
          have HB3 := Lib.hid (HB2.out.trans (hb3.mono HB2.out.size))
          have HNd : Hid ((M3.map (·.1)).Nodup) := hm3.nodup
          have HR : Hid (resV p (capR lm L) = .tuple #[.int .i64 ((mget M3 (0, 0, 0)).getD 0), .nilIface]) := by
            unfold Hid capR capSum capS
            rw [HOV.out]
            simp only [Bool.false_eq_true, if_false]; rw [hst1]; simp only [Option.bind_some, Option.bind_none, Option.map_none, Option.map_some]; rw [hst2]; simp only [Option.bind_some, Option.bind_none, Option.map_none, Option.map_some]; rw [hst3]; simp only [Option.bind_some, Option.bind_none, Option.map_none, Option.map_some]
            rw [mget_perm HNd.out hp3]; rfl
          have hl := grp_look hm3 0 0 0 ⟨wf0, wf0, wf0⟩
          generalize (mget M3 (0, 0, 0)).getD 0 = r at hl HR
          clear hb3 hm3 q22 HM2'
          go_wp2_with fail
          rw [rounds_succ]
          go_wp2_with fail
          go_ret2
          exact ⟨by rw [HR.out]; rfl, HB3.out⟩

end Go.Proofs.YtkdmedmlbglgmaaDoor
