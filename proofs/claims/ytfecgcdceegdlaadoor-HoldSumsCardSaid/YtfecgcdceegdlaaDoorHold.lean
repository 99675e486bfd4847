/- Package hold: fits, Put, Take, Get; fix.Add; holdings in memory as a whole. -/
import Derived.Test.YtfecgcdceegdlaaDoorHoldMap
namespace Go.Proofs.YtfecgcdceegdlaaDoor
open Go.Maps
open Go Go.RowKit
set_option linter.unusedSimpArgs false
set_option linter.unusedVariables false

def spotOK (s k q : Int) : Bool := decide (1 ≤ s ∧ s ≤ 32 ∧ 1 ≤ k ∧ k ≤ 32 ∧ 1 ≤ q ∧ q ≤ 1000000000000)
/-- fix.Add where both are from 0 on and the sum is none too great. -/
theorem fixAdd_calls (a b : Int) (h1 : 0 ≤ a) (h2 : a ≤ 4000000000000000000) (h3 : 0 ≤ b) (h4 : b ≤ 4000000000000000000) (w : World) :
    Calls Tryd.prog 78 #[.int .i64 a, .int .i64 b] w fun e w' => e = .returned (.tuple #[.int .i64 (a + b), .bool true]) ∧ w = w' := by
  by_cases hb : b = 0
  · subst hb
    go_enter Tryd.func78, Tryd.ntmps78
    go_wp2
    go_ret2
    exact ⟨by simp, rfl⟩
  · have k1 : decide (a < a + b) = true := decide_eq_true (by omega)
    have k2 : decide (0 < b) = true := decide_eq_true (by omega)
    go_enter Tryd.func78, Tryd.ntmps78
    go_wp2
    go_ret2
    exact ⟨rfl, rfl⟩

theorem holdFits_f0 {w : World} (p : Nat → Addr) (x y q : Int) (h2 : w.cell? ⟨1, 0, none⟩ = some (ev p 2)) (hlt : 1 < w.heap.size)
     (k0 : decide (x < 1) = true) :
    Calls Tryd.prog 77 #[pairV (x, y), .int .i64 q] w fun e w' => e = .returned (ev p 2) ∧ Below w.heap.size w w' := by
  unfold ev errV at h2
  have hz : 0 < w.heap.size := by omega
  go_enter Tryd.func77, Tryd.ntmps77
  go_wp2
  go_ret
  exact ⟨rfl, by (repeat (first | exact Below.refl _ _ | assumption | refine Below.drew ?_ | refine below_many ?_ _ | refine Below.alloc ?_ (by first | (simp; done) | (simp; omega) | omega) _ | refine Below.setCell ?_ (by first | (simp; done) | (simp; omega) | omega) _))⟩

theorem holdFits_f1 {w : World} (p : Nat → Addr) (x y q : Int) (h2 : w.cell? ⟨1, 0, none⟩ = some (ev p 2)) (hlt : 1 < w.heap.size)
    (k0 : decide (x < 1) = false) (k1 : decide (32 < x) = true) :
    Calls Tryd.prog 77 #[pairV (x, y), .int .i64 q] w fun e w' => e = .returned (ev p 2) ∧ Below w.heap.size w w' := by
  unfold ev errV at h2
  have hz : 0 < w.heap.size := by omega
  go_enter Tryd.func77, Tryd.ntmps77
  go_wp2
  go_ret
  exact ⟨rfl, by (repeat (first | exact Below.refl _ _ | assumption | refine Below.drew ?_ | refine below_many ?_ _ | refine Below.alloc ?_ (by first | (simp; done) | (simp; omega) | omega) _ | refine Below.setCell ?_ (by first | (simp; done) | (simp; omega) | omega) _))⟩

theorem holdFits_f2 {w : World} (p : Nat → Addr) (x y q : Int) (h2 : w.cell? ⟨1, 0, none⟩ = some (ev p 2)) (hlt : 1 < w.heap.size)
    (k0 : decide (x < 1) = false) (k1 : decide (32 < x) = false) (k2 : decide (y < 1) = true) :
    Calls Tryd.prog 77 #[pairV (x, y), .int .i64 q] w fun e w' => e = .returned (ev p 2) ∧ Below w.heap.size w w' := by
  unfold ev errV at h2
  have hz : 0 < w.heap.size := by omega
  go_enter Tryd.func77, Tryd.ntmps77
  go_wp2
  go_ret
  exact ⟨rfl, by (repeat (first | exact Below.refl _ _ | assumption | refine Below.drew ?_ | refine below_many ?_ _ | refine Below.alloc ?_ (by first | (simp; done) | (simp; omega) | omega) _ | refine Below.setCell ?_ (by first | (simp; done) | (simp; omega) | omega) _))⟩

theorem holdFits_f3 {w : World} (p : Nat → Addr) (x y q : Int) (h2 : w.cell? ⟨1, 0, none⟩ = some (ev p 2)) (hlt : 1 < w.heap.size)
    (k0 : decide (x < 1) = false) (k1 : decide (32 < x) = false) (k2 : decide (y < 1) = false) (k3 : decide (32 < y) = true) :
    Calls Tryd.prog 77 #[pairV (x, y), .int .i64 q] w fun e w' => e = .returned (ev p 2) ∧ Below w.heap.size w w' := by
  unfold ev errV at h2
  have hz : 0 < w.heap.size := by omega
  go_enter Tryd.func77, Tryd.ntmps77
  go_wp2
  go_ret
  exact ⟨rfl, by (repeat (first | exact Below.refl _ _ | assumption | refine Below.drew ?_ | refine below_many ?_ _ | refine Below.alloc ?_ (by first | (simp; done) | (simp; omega) | omega) _ | refine Below.setCell ?_ (by first | (simp; done) | (simp; omega) | omega) _))⟩

theorem holdFits_f4 {w : World} (p : Nat → Addr) (x y q : Int) (h2 : w.cell? ⟨1, 0, none⟩ = some (ev p 2)) (hlt : 1 < w.heap.size)
    (k0 : decide (x < 1) = false) (k1 : decide (32 < x) = false) (k2 : decide (y < 1) = false) (k3 : decide (32 < y) = false) (k4 : decide (q < 1) = true) :
    Calls Tryd.prog 77 #[pairV (x, y), .int .i64 q] w fun e w' => e = .returned (ev p 2) ∧ Below w.heap.size w w' := by
  unfold ev errV at h2
  have hz : 0 < w.heap.size := by omega
  go_enter Tryd.func77, Tryd.ntmps77
  go_wp2
  go_ret
  exact ⟨rfl, by (repeat (first | exact Below.refl _ _ | assumption | refine Below.drew ?_ | refine below_many ?_ _ | refine Below.alloc ?_ (by first | (simp; done) | (simp; omega) | omega) _ | refine Below.setCell ?_ (by first | (simp; done) | (simp; omega) | omega) _))⟩

theorem holdFits_f5 {w : World} (p : Nat → Addr) (x y q : Int) (h2 : w.cell? ⟨1, 0, none⟩ = some (ev p 2)) (hlt : 1 < w.heap.size)
    (k0 : decide (x < 1) = false) (k1 : decide (32 < x) = false) (k2 : decide (y < 1) = false) (k3 : decide (32 < y) = false) (k4 : decide (q < 1) = false) (k5 : decide (1000000000000 < q) = true) :
    Calls Tryd.prog 77 #[pairV (x, y), .int .i64 q] w fun e w' => e = .returned (ev p 2) ∧ Below w.heap.size w w' := by
  unfold ev errV at h2
  have hz : 0 < w.heap.size := by omega
  go_enter Tryd.func77, Tryd.ntmps77
  go_wp2
  go_ret
  exact ⟨rfl, by (repeat (first | exact Below.refl _ _ | assumption | refine Below.drew ?_ | refine below_many ?_ _ | refine Below.alloc ?_ (by first | (simp; done) | (simp; omega) | omega) _ | refine Below.setCell ?_ (by first | (simp; done) | (simp; omega) | omega) _))⟩

theorem holdFits_t {w : World} (p : Nat → Addr) (x y q : Int) (h2 : w.cell? ⟨1, 0, none⟩ = some (ev p 2)) (hlt : 1 < w.heap.size)
    (k0 : decide (x < 1) = false) (k1 : decide (32 < x) = false) (k2 : decide (y < 1) = false) (k3 : decide (32 < y) = false) (k4 : decide (q < 1) = false) (k5 : decide (1000000000000 < q) = false) :
    Calls Tryd.prog 77 #[pairV (x, y), .int .i64 q] w fun e w' => e = .returned .nilIface ∧ Below w.heap.size w w' := by
  unfold ev errV at h2
  have hz : 0 < w.heap.size := by omega
  go_enter Tryd.func77, Tryd.ntmps77
  go_wp2
  go_ret
  exact ⟨rfl, by (repeat (first | exact Below.refl _ _ | assumption | refine Below.drew ?_ | refine below_many ?_ _ | refine Below.alloc ?_ (by first | (simp; done) | (simp; omega) | omega) _ | refine Below.setCell ?_ (by first | (simp; done) | (simp; omega) | omega) _))⟩

def fitsV (p : Nat → Addr) (x y q : Int) : Value := if spotOK x y q = true then .nilIface else ev p 2
theorem holdFits_calls {ks : List Nat} {B : Nat} {p : Nat → Addr} {w : World} (hE : Errs ks B p w) (hk : 2 ∈ ks) (x y q : Int) :
    Calls Tryd.prog 77 #[pairV (x, y), .int .i64 q] w fun e w' => e = .returned (fitsV p x y q) ∧ Below w.heap.size w w' := by
  have h2 : w.cell? ⟨1, 0, none⟩ = some (ev p 2) := hE.cell 2 hk
  have hlt : 1 < w.heap.size := Nat.lt_of_lt_of_le (hE.lt 2 hk).1 hE.size
  unfold fitsV
  by_cases c0 : x < 1
  case pos =>
    rw [if_neg (by simp only [spotOK, decide_eq_true_eq]; omega)]
    exact holdFits_f0 p x y q h2 hlt  (decide_eq_true c0)
  by_cases c1 : 32 < x
  case pos =>
    rw [if_neg (by simp only [spotOK, decide_eq_true_eq]; omega)]
    exact holdFits_f1 p x y q h2 hlt (decide_eq_false c0) (decide_eq_true c1)
  by_cases c2 : y < 1
  case pos =>
    rw [if_neg (by simp only [spotOK, decide_eq_true_eq]; omega)]
    exact holdFits_f2 p x y q h2 hlt (decide_eq_false c0) (decide_eq_false c1) (decide_eq_true c2)
  by_cases c3 : 32 < y
  case pos =>
    rw [if_neg (by simp only [spotOK, decide_eq_true_eq]; omega)]
    exact holdFits_f3 p x y q h2 hlt (decide_eq_false c0) (decide_eq_false c1) (decide_eq_false c2) (decide_eq_true c3)
  by_cases c4 : q < 1
  case pos =>
    rw [if_neg (by simp only [spotOK, decide_eq_true_eq]; omega)]
    exact holdFits_f4 p x y q h2 hlt (decide_eq_false c0) (decide_eq_false c1) (decide_eq_false c2) (decide_eq_false c3) (decide_eq_true c4)
  by_cases c5 : 1000000000000 < q
  case pos =>
    rw [if_neg (by simp only [spotOK, decide_eq_true_eq]; omega)]
    exact holdFits_f5 p x y q h2 hlt (decide_eq_false c0) (decide_eq_false c1) (decide_eq_false c2) (decide_eq_false c3) (decide_eq_false c4) (decide_eq_true c5)
  rw [if_pos (by simp only [spotOK, decide_eq_true_eq]; omega)]
  exact holdFits_t p x y q h2 hlt (decide_eq_false c0) (decide_eq_false c1) (decide_eq_false c2) (decide_eq_false c3) (decide_eq_false c4) (decide_eq_false c5)

theorem holdGet_calls {w : World} {b o : Nat} {r : Option Nat} {m : SpotM} (hc : w.cell? ⟨b, o, none⟩ = some (.map r)) (hm : SpotMap w r m) (s k : Int) (h1 : (Lit.int .i64 s).wf = true) (h2 : (Lit.int .i64 k).wf = true) :
    Calls Tryd.prog 36 #[.pointer (some ⟨b, o, none⟩), pairV (s, k)] w fun e w' => e = .returned (.int .i64 ((mget m (s, k)).getD 0)) ∧ Below w.heap.size w w' := by
  have hlt : b < w.heap.size := World.block_lt_of_cell? w ⟨b, o, none⟩ hc
  have hl : ∀ n, (Instr.lookup 51 (.map r) (.agg #[.int .i64 s, .int .i64 k]) false).run Tryd.prog ((w.alloc (Obj.cells #[.int .i64 s, .int .i64 k] 55)).drewN n) = .ok (.int .i64 ((mget m (s, k)).getD 0)) ((w.alloc (Obj.cells #[.int .i64 s, .int .i64 k] 55)).drewN n) :=
    fun n => spot_look ((hm.alloc _).drewN n) s k h1 h2
  clear hm h1 h2
  generalize (mget m (s, k)).getD 0 = v at hl ⊢
  go_enter Tryd.func36, Tryd.ntmps36
  go_wp2_with fail
  go_quiet (fail)
  go_wp2_with fail
  go_ret
  exact ⟨rfl, by (repeat (first | exact Below.refl _ _ | assumption | refine Below.drew ?_ | refine below_many ?_ _ | refine Below.alloc ?_ (by first | (simp; done) | (simp; omega) | omega) _ | refine Below.setCell ?_ (by first | (simp; done) | (simp; omega) | omega) _))⟩

set_option maxHeartbeats 4000000 in
set_option maxRecDepth 100000 in
theorem holdPut_bad {ks : List Nat} {B : Nat} {p : Nat → Addr} {w : World} (hE : Errs ks B p w) (h2 : 2 ∈ ks) (pt : Value) (s k q : Int) (hv : spotOK s k q = false) :
    Calls Tryd.prog 34 #[pt, pairV (s, k), .int .i64 q] w fun e w' => e = .returned (ev p 2) ∧ Below w.heap.size w w' := by
  have HE := Lib.hid hE
  have HV : Hid (fitsV p s k q = ev p 2) := by unfold Hid fitsV; rw [if_neg (by rw [hv]; simp)]
  clear hE hv
  go_enter Tryd.func34, Tryd.ntmps34
  go_wp2_with fail
  refine (holdFits_calls (HE.out.below (show Below B w _ from (Below.refl _ _).alloc HE.out.size _)) h2 s k q).mono ?_
  rintro e w1 ⟨rfl, hb⟩
  rw [HV.out, show ev p 2 = Value.iface 230 (.pointer (some (p 2))) from rfl]
  have hB : Below w.heap.size w w1 := Below.trans ((Below.refl _ _).alloc (Nat.le_refl _) _) (hb.mono (by simp))
  clear hb
  go_wp2_with fail
  go_ret
  exact ⟨rfl, hB⟩

set_option maxHeartbeats 4000000 in
set_option maxRecDepth 100000 in
theorem holdTake_bad {ks : List Nat} {B : Nat} {p : Nat → Addr} {w : World} (hE : Errs ks B p w) (h2 : 2 ∈ ks) (pt : Value) (s k q : Int) (hv : spotOK s k q = false) :
    Calls Tryd.prog 33 #[pt, pairV (s, k), .int .i64 q] w fun e w' => e = .returned (ev p 2) ∧ Below w.heap.size w w' := by
  have HE := Lib.hid hE
  have HV : Hid (fitsV p s k q = ev p 2) := by unfold Hid fitsV; rw [if_neg (by rw [hv]; simp)]
  clear hE hv
  go_enter Tryd.func33, Tryd.ntmps33
  go_wp2_with fail
  refine (holdFits_calls (HE.out.below (show Below B w _ from (Below.refl _ _).alloc HE.out.size _)) h2 s k q).mono ?_
  rintro e w1 ⟨rfl, hb⟩
  rw [HV.out, show ev p 2 = Value.iface 230 (.pointer (some (p 2))) from rfl]
  have hB : Below w.heap.size w w1 := Below.trans ((Below.refl _ _).alloc (Nat.le_refl _) _) (hb.mono (by simp))
  clear hb
  go_wp2_with fail
  go_ret
  exact ⟨rfl, hB⟩

set_option maxHeartbeats 4000000 in
set_option maxRecDepth 100000 in
theorem holdTake_short {ks : List Nat} {B : Nat} {p : Nat → Addr} {w : World} (hE : Errs ks B p w) (h2 : 2 ∈ ks) (h12 : 12 ∈ ks) {b o : Nat} {r : Option Nat} {m : SpotM} (hc : w.cell? ⟨b, o, none⟩ = some (.map r)) (hm : SpotMap w r m) (s k q g : Int) (hv : spotOK s k q = true) (hg : (mget m (s, k)).getD 0 = g) (hgq : g < q) :
    Calls Tryd.prog 33 #[.pointer (some ⟨b, o, none⟩), pairV (s, k), .int .i64 q] w fun e w' => e = .returned (ev p 12) ∧ Below w.heap.size w w' := by
  have c12 := hE.cell 12 h12
  simp only [gl] at c12
  have hlt12 := World.block_lt_of_cell? w _ c12
  have hlt : b < w.heap.size := World.block_lt_of_cell? w ⟨b, o, none⟩ hc
  have ws : (Lit.int .i64 s).wf = true := by simp only [spotOK, decide_eq_true_eq] at hv; exact i64wf (by omega) (by omega)
  have wk : (Lit.int .i64 k).wf = true := by simp only [spotOK, decide_eq_true_eq] at hv; exact i64wf (by omega) (by omega)
  have hqb : 1 ≤ q ∧ q ≤ 1000000000000 := by simp only [spotOK, decide_eq_true_eq] at hv; omega
  have HE := Lib.hid hE
  have HV : Hid (fitsV p s k q = .nilIface) := by unfold Hid fitsV; rw [if_pos hv]
  have HM := Lib.hid hm
  have HG := Lib.hid hg
  clear hE hv hm hg
  go_enter Tryd.func33, Tryd.ntmps33
  go_wp2_with fail
  refine (holdFits_calls (HE.out.below (show Below B w _ from (Below.refl _ _).alloc HE.out.size _)) h2 s k q).mono ?_
  rintro e w1 ⟨rfl, hb⟩
  rw [HV.out]
  have hB : Below w.heap.size w w1 := Below.trans ((Below.refl _ _).alloc (Nat.le_refl _) _) (hb.mono (by simp))
  have hc1 := (hB.cell (p := ⟨b, o, none⟩) hlt).trans hc
  have hq : ∀ i u, (w.alloc (Obj.cells #[.int .i64 s, .int .i64 k] 55)).cell? ⟨w.heap.size, i, none⟩ = some u → w1.cell? ⟨w.heap.size, i, none⟩ = some u := fun i u hu => (hb.cell (p := ⟨w.heap.size, i, none⟩) (by simp)).trans hu
  have q0 := hq 0 (.int .i64 s) (by go_simp)
  have q1 := hq 1 (.int .i64 k) (by go_simp)
  have hs1 : w.heap.size < w1.heap.size := by have := hb.size; simp at this; omega
  have hm1 := HM.out.below hB
  have hlk : (Instr.lookup 51 (.map r) (.agg #[.int .i64 s, .int .i64 k]) false).run Tryd.prog w1.drew = .ok (.int .i64 ((mget m (s, k)).getD 0)) w1.drew := spot_look hm1.drew s k ws wk
  simp only [HG.out] at hlk
  have d12 := (hB.cell (p := ⟨2, 0, none⟩) hlt12).trans c12
  try unfold ev errV at d12
  clear hb hc c12 hq hm1
  go_wp2_with fail
  (refine wp_region_still_tail 6 (by kernel_rfl) (by kernel_rfl) ?_; simp only [List.take_succ_cons, List.take_zero, List.drop_succ_cons, List.drop_zero]; change wpStill _ _ (World.drew _) _ _ _; (repeat still_step); refine wpStill_nil ?_; change wpList _ _ _ _ _ (World.drew _))
  go_wp2_with fail
  go_ret
  exact ⟨rfl, by (repeat (first | exact Below.refl _ _ | assumption | refine Below.drew ?_ | refine below_many ?_ _ | refine Below.alloc ?_ (by first | (simp; done) | (simp; omega) | omega) _ | refine Below.setCell ?_ (by first | (simp; done) | (simp; omega) | omega) _))⟩

set_option maxHeartbeats 4000000 in
set_option maxRecDepth 100000 in
theorem holdTake_all {ks : List Nat} {B : Nat} {p : Nat → Addr} {w : World} (hE : Errs ks B p w) (h2 : 2 ∈ ks) {b o : Nat} {mb : Nat} {m : SpotM} (hc : w.cell? ⟨b, o, none⟩ = some (.map (some mb))) (hm : SpotMap w (some mb) m) (s k q g : Int) (hv : spotOK s k q = true) (hg : (mget m (s, k)).getD 0 = g) (hgq : g = q) :
    Calls Tryd.prog 33 #[.pointer (some ⟨b, o, none⟩), pairV (s, k), .int .i64 q] w fun e w' => e = .returned .nilIface ∧ SpotMap w' (some mb) (mdel m (s, k)) ∧ Keep (fun x => x = mb) w w' := by
  have hlt : b < w.heap.size := World.block_lt_of_cell? w ⟨b, o, none⟩ hc
  have ws : (Lit.int .i64 s).wf = true := by simp only [spotOK, decide_eq_true_eq] at hv; exact i64wf (by omega) (by omega)
  have wk : (Lit.int .i64 k).wf = true := by simp only [spotOK, decide_eq_true_eq] at hv; exact i64wf (by omega) (by omega)
  have hqb : 1 ≤ q ∧ q ≤ 1000000000000 := by simp only [spotOK, decide_eq_true_eq] at hv; omega
  have HE := Lib.hid hE
  have HV : Hid (fitsV p s k q = .nilIface) := by unfold Hid fitsV; rw [if_pos hv]
  have HM := Lib.hid hm
  have HG := Lib.hid hg
  clear hE hv hm hg
  go_enter Tryd.func33, Tryd.ntmps33
  go_wp2_with fail
  refine (holdFits_calls (HE.out.below (show Below B w _ from (Below.refl _ _).alloc HE.out.size _)) h2 s k q).mono ?_
  rintro e w1 ⟨rfl, hb⟩
  rw [HV.out]
  have hB : Below w.heap.size w w1 := Below.trans ((Below.refl _ _).alloc (Nat.le_refl _) _) (hb.mono (by simp))
  have hc1 := (hB.cell (p := ⟨b, o, none⟩) hlt).trans hc
  have hq : ∀ i u, (w.alloc (Obj.cells #[.int .i64 s, .int .i64 k] 55)).cell? ⟨w.heap.size, i, none⟩ = some u → w1.cell? ⟨w.heap.size, i, none⟩ = some u := fun i u hu => (hb.cell (p := ⟨w.heap.size, i, none⟩) (by simp)).trans hu
  have q0 := hq 0 (.int .i64 s) (by go_simp)
  have q1 := hq 1 (.int .i64 k) (by go_simp)
  have hs1 : w.heap.size < w1.heap.size := by have := hb.size; simp at this; omega
  have hm1 := HM.out.below hB
  have hlk : (Instr.lookup 51 (.map (some mb)) (.agg #[.int .i64 s, .int .i64 k]) false).run Tryd.prog w1.drew = .ok (.int .i64 ((mget m (s, k)).getD 0)) w1.drew := spot_look hm1.drew s k ws wk
  rw [HG.out, hgq] at hlk
  have hne : ¬ b = mb := by
    rcases hm1 with ⟨h, _⟩ | ⟨b', h, hh⟩
    · cases h
    · cases h
      obtain ⟨es, clk, hh, _⟩ := hh
      intro e; subst e
      simp [World.cell?, hh] at hc1
  obtain ⟨w3, hdr, hm3, hk3, _⟩ := spot_drop (ty := 0) hm1.drew.drew s k ws wk
  have HM3 := Lib.hid hm3
  have HK3 := Lib.hid hk3
  clear hb hc hq hm1 hm3 hk3 hgq
  go_wp2_with fail
  (refine wp_region_still_tail 6 (by kernel_rfl) (by kernel_rfl) ?_; simp only [List.take_succ_cons, List.take_zero, List.drop_succ_cons, List.drop_zero]; change wpStill _ _ (World.drew _) _ _ _; (repeat still_step); refine wpStill_nil ?_; change wpList _ _ _ _ _ (World.drew _))
  go_wp2_with fail
  (refine wp_region_still_tail 5 (by kernel_rfl) (by kernel_rfl) ?_; simp only [List.take_succ_cons, List.take_zero, List.drop_succ_cons, List.drop_zero]; change wpStill _ _ (World.drew _) _ _ _; (repeat still_step); refine wpStill_nil ?_; change wpList _ _ _ _ _ (World.drew _))
  go_wp2_with fail
  go_ret
  exact ⟨rfl, HM3.out, (Keep.of_below (by (repeat (first | exact Below.refl _ _ | assumption | refine Below.drew ?_ | refine below_many ?_ _ | refine Below.alloc ?_ (by first | (simp; done) | (simp; omega) | omega) _ | refine Below.setCell ?_ (by first | (simp; done) | (simp; omega) | omega) _)))).trans HK3.out⟩

set_option maxHeartbeats 4000000 in
set_option maxRecDepth 100000 in
theorem holdTake_part {ks : List Nat} {B : Nat} {p : Nat → Addr} {w : World} (hE : Errs ks B p w) (h2 : 2 ∈ ks) {b o : Nat} {mb : Nat} {m : SpotM} (hc : w.cell? ⟨b, o, none⟩ = some (.map (some mb))) (hm : SpotMap w (some mb) m) (s k q g : Int) (hv : spotOK s k q = true) (hg : (mget m (s, k)).getD 0 = g) (hgq : q < g) (hgm : g ≤ 1000000000000) :
    Calls Tryd.prog 33 #[.pointer (some ⟨b, o, none⟩), pairV (s, k), .int .i64 q] w fun e w' => e = .returned .nilIface ∧ SpotMap w' (some mb) (mput m (s, k) (g - q)) ∧ Keep (fun x => x = mb) w w' := by
  have hlt : b < w.heap.size := World.block_lt_of_cell? w ⟨b, o, none⟩ hc
  have ws : (Lit.int .i64 s).wf = true := by simp only [spotOK, decide_eq_true_eq] at hv; exact i64wf (by omega) (by omega)
  have wk : (Lit.int .i64 k).wf = true := by simp only [spotOK, decide_eq_true_eq] at hv; exact i64wf (by omega) (by omega)
  have hqb : 1 ≤ q ∧ q ≤ 1000000000000 := by simp only [spotOK, decide_eq_true_eq] at hv; omega
  have HE := Lib.hid hE
  have HV : Hid (fitsV p s k q = .nilIface) := by unfold Hid fitsV; rw [if_pos hv]
  have HM := Lib.hid hm
  have HG := Lib.hid hg
  clear hE hv hm hg
  go_enter Tryd.func33, Tryd.ntmps33
  go_wp2_with fail
  refine (holdFits_calls (HE.out.below (show Below B w _ from (Below.refl _ _).alloc HE.out.size _)) h2 s k q).mono ?_
  rintro e w1 ⟨rfl, hb⟩
  rw [HV.out]
  have hB : Below w.heap.size w w1 := Below.trans ((Below.refl _ _).alloc (Nat.le_refl _) _) (hb.mono (by simp))
  have hc1 := (hB.cell (p := ⟨b, o, none⟩) hlt).trans hc
  have hq : ∀ i u, (w.alloc (Obj.cells #[.int .i64 s, .int .i64 k] 55)).cell? ⟨w.heap.size, i, none⟩ = some u → w1.cell? ⟨w.heap.size, i, none⟩ = some u := fun i u hu => (hb.cell (p := ⟨w.heap.size, i, none⟩) (by simp)).trans hu
  have q0 := hq 0 (.int .i64 s) (by go_simp)
  have q1 := hq 1 (.int .i64 k) (by go_simp)
  have hs1 : w.heap.size < w1.heap.size := by have := hb.size; simp at this; omega
  have hm1 := HM.out.below hB
  have hlk : (Instr.lookup 51 (.map (some mb)) (.agg #[.int .i64 s, .int .i64 k]) false).run Tryd.prog w1.drew = .ok (.int .i64 ((mget m (s, k)).getD 0)) w1.drew := spot_look hm1.drew s k ws wk
  simp only [HG.out] at hlk
  obtain ⟨w3, hst, hm3, hk3, _⟩ := spot_store hm1.drew.drew s k (g - q) ws wk
  have e1 : ¬ g < q := by omega
  have e2 : (g == q) = false := by simp; omega
  have HM3 := Lib.hid hm3
  have HK3 := Lib.hid hk3
  clear hb hc hq hm1 hm3 hk3
  go_wp2_with fail
  (refine wp_region_still_tail 6 (by kernel_rfl) (by kernel_rfl) ?_; simp only [List.take_succ_cons, List.take_zero, List.drop_succ_cons, List.drop_zero]; change wpStill _ _ (World.drew _) _ _ _; (repeat still_step); refine wpStill_nil ?_; change wpList _ _ _ _ _ (World.drew _))
  go_wp2_with fail
  (refine wp_region_still_tail 8 (by kernel_rfl) (by kernel_rfl) ?_; simp only [List.take_succ_cons, List.take_zero, List.drop_succ_cons, List.drop_zero]; change wpStill _ _ (World.drew _) _ _ _; (repeat still_step); refine wpStill_nil ?_; change wpList _ _ _ _ _ (World.drew _))
  go_wp2_with fail
  rw [hst]
  go_wp2_with fail
  go_ret
  exact ⟨rfl, HM3.out, (Keep.of_below (by (repeat (first | exact Below.refl _ _ | assumption | refine Below.drew ?_ | refine below_many ?_ _ | refine Below.alloc ?_ (by first | (simp; done) | (simp; omega) | omega) _ | refine Below.setCell ?_ (by first | (simp; done) | (simp; omega) | omega) _)))).trans HK3.out⟩

set_option maxHeartbeats 4000000 in
set_option maxRecDepth 100000 in
theorem holdPut_over {ks : List Nat} {B : Nat} {p : Nat → Addr} {w : World} (hE : Errs ks B p w) (h2 : 2 ∈ ks) (h3 : 3 ∈ ks) {b o : Nat} {r : Option Nat} {m : SpotM} (hc : w.cell? ⟨b, o, none⟩ = some (.map r)) (hm : SpotMap w r m) (s k q g : Int) (hv : spotOK s k q = true) (hg : (mget m (s, k)).getD 0 = g) (hg0 : 0 ≤ g) (hgm : g ≤ 1000000000000) (hgq : 1000000000000 < g + q) :
    Calls Tryd.prog 34 #[.pointer (some ⟨b, o, none⟩), pairV (s, k), .int .i64 q] w fun e w' => e = .returned (ev p 3) ∧ Below w.heap.size w w' := by
  have c3 := hE.cell 3 h3
  simp only [gl] at c3
  have hlt3 := World.block_lt_of_cell? w _ c3
  have hlt : b < w.heap.size := World.block_lt_of_cell? w ⟨b, o, none⟩ hc
  have ws : (Lit.int .i64 s).wf = true := by simp only [spotOK, decide_eq_true_eq] at hv; exact i64wf (by omega) (by omega)
  have wk : (Lit.int .i64 k).wf = true := by simp only [spotOK, decide_eq_true_eq] at hv; exact i64wf (by omega) (by omega)
  have hqb : 1 ≤ q ∧ q ≤ 1000000000000 := by simp only [spotOK, decide_eq_true_eq] at hv; omega
  have HE := Lib.hid hE
  have HV : Hid (fitsV p s k q = .nilIface) := by unfold Hid fitsV; rw [if_pos hv]
  have HM := Lib.hid hm
  have HG := Lib.hid hg
  clear hE hv hm hg
  go_enter Tryd.func34, Tryd.ntmps34
  go_wp2_with fail
  refine (holdFits_calls (HE.out.below (show Below B w _ from (Below.refl _ _).alloc HE.out.size _)) h2 s k q).mono ?_
  rintro e w1 ⟨rfl, hb⟩
  rw [HV.out]
  have hB : Below w.heap.size w w1 := Below.trans ((Below.refl _ _).alloc (Nat.le_refl _) _) (hb.mono (by simp))
  have hc1 := (hB.cell (p := ⟨b, o, none⟩) hlt).trans hc
  have hq : ∀ i u, (w.alloc (Obj.cells #[.int .i64 s, .int .i64 k] 55)).cell? ⟨w.heap.size, i, none⟩ = some u → w1.cell? ⟨w.heap.size, i, none⟩ = some u := fun i u hu => (hb.cell (p := ⟨w.heap.size, i, none⟩) (by simp)).trans hu
  have q0 := hq 0 (.int .i64 s) (by go_simp)
  have q1 := hq 1 (.int .i64 k) (by go_simp)
  have hs1 : w.heap.size < w1.heap.size := by have := hb.size; simp at this; omega
  have hm1 := HM.out.below hB
  have hlk : ∀ n, (Instr.lookup 51 (.map r) (.agg #[.int .i64 s, .int .i64 k]) false).run Tryd.prog (w1.drewN n) = .ok (.int .i64 ((mget m (s, k)).getD 0)) (w1.drewN n) := fun n => spot_look (hm1.drewN n) s k ws wk
  simp only [HG.out] at hlk
  have d3 := (hB.cell (p := ⟨3, 0, none⟩) hlt3).trans c3
  try unfold ev errV at d3
  clear hb hc c3 hq hm1
  go_wp2_with fail
  go_quiet ((go_at_call 78; exact Calls.quiet_of_same ((fixAdd_calls g q hg0 (by omega) (by omega) (by omega) _).mono fun _ _ ⟨he, hw⟩ => ⟨he, hw.symm⟩)))
  go_wp2_with fail
  go_ret
  exact ⟨rfl, by (repeat (first | exact Below.refl _ _ | assumption | refine Below.drew ?_ | refine below_many ?_ _ | refine Below.alloc ?_ (by first | (simp; done) | (simp; omega) | omega) _ | refine Below.setCell ?_ (by first | (simp; done) | (simp; omega) | omega) _))⟩

set_option maxHeartbeats 4000000 in
set_option maxRecDepth 100000 in
theorem holdPut_some {ks : List Nat} {B : Nat} {p : Nat → Addr} {w : World} (hE : Errs ks B p w) (h2 : 2 ∈ ks) {b o : Nat} {mb : Nat} {m : SpotM} (hc : w.cell? ⟨b, o, none⟩ = some (.map (some mb))) (hm : SpotMap w (some mb) m) (s k q g : Int) (hv : spotOK s k q = true) (hg : (mget m (s, k)).getD 0 = g) (hne : m ≠ []) (hg0 : 0 ≤ g) (hgm : g ≤ 1000000000000) (hgq : g + q ≤ 1000000000000) :
    Calls Tryd.prog 34 #[.pointer (some ⟨b, o, none⟩), pairV (s, k), .int .i64 q] w fun e w' => e = .returned .nilIface ∧ SpotMap w' (some mb) (mput m (s, k) (g + q)) ∧ Keep (fun x => x = mb) w w' := by
  have hp : ((m.length : Int) == 0) = false := by simp [hne]
  clear hne
  have hlt : b < w.heap.size := World.block_lt_of_cell? w ⟨b, o, none⟩ hc
  have ws : (Lit.int .i64 s).wf = true := by simp only [spotOK, decide_eq_true_eq] at hv; exact i64wf (by omega) (by omega)
  have wk : (Lit.int .i64 k).wf = true := by simp only [spotOK, decide_eq_true_eq] at hv; exact i64wf (by omega) (by omega)
  have hqb : 1 ≤ q ∧ q ≤ 1000000000000 := by simp only [spotOK, decide_eq_true_eq] at hv; omega
  have HE := Lib.hid hE
  have HV : Hid (fitsV p s k q = .nilIface) := by unfold Hid fitsV; rw [if_pos hv]
  have HM := Lib.hid hm
  have HG := Lib.hid hg
  clear hE hv hm hg
  go_enter Tryd.func34, Tryd.ntmps34
  go_wp2_with fail
  refine (holdFits_calls (HE.out.below (show Below B w _ from (Below.refl _ _).alloc HE.out.size _)) h2 s k q).mono ?_
  rintro e w1 ⟨rfl, hb⟩
  rw [HV.out]
  have hB : Below w.heap.size w w1 := Below.trans ((Below.refl _ _).alloc (Nat.le_refl _) _) (hb.mono (by simp))
  have hc1 := (hB.cell (p := ⟨b, o, none⟩) hlt).trans hc
  have hq : ∀ i u, (w.alloc (Obj.cells #[.int .i64 s, .int .i64 k] 55)).cell? ⟨w.heap.size, i, none⟩ = some u → w1.cell? ⟨w.heap.size, i, none⟩ = some u := fun i u hu => (hb.cell (p := ⟨w.heap.size, i, none⟩) (by simp)).trans hu
  have q0 := hq 0 (.int .i64 s) (by go_simp)
  have q1 := hq 1 (.int .i64 k) (by go_simp)
  have hs1 : w.heap.size < w1.heap.size := by have := hb.size; simp at this; omega
  have hm1 := HM.out.below hB
  have hlk : ∀ n, (Instr.lookup 51 (.map (some mb)) (.agg #[.int .i64 s, .int .i64 k]) false).run Tryd.prog (w1.drewN n) = .ok (.int .i64 ((mget m (s, k)).getD 0)) (w1.drewN n) := fun n => spot_look (hm1.drewN n) s k ws wk
  simp only [HG.out] at hlk
  have hln : ∀ n, (Builtin.len_ #[51] 3 #[.map (some mb)]).run Tryd.prog (w1.drewN n) = .ok (.int .i64 (m.length : Int)) (w1.drewN n) := fun n => spot_len (hm1.drewN n)
  have HM1 := Lib.hid hm1
  clear hb hc hq hm1
  go_wp2_with fail
  go_quiet ((go_at_call 78; exact Calls.quiet_of_same ((fixAdd_calls g q hg0 (by omega) (by omega) (by omega) _).mono fun _ _ ⟨he, hw⟩ => ⟨he, hw.symm⟩)))
  obtain ⟨w3, hst, hm3, hk3, _⟩ := spot_store (HM1.out.drewN (nq + 1)) s k (g + q) ws wk
  have HM3 := Lib.hid hm3
  have HK3 := Lib.hid hk3
  clear hm3 hk3
  go_wp2_with fail
  (refine wp_region_still_tail 6 (by kernel_rfl) (by kernel_rfl) ?_; simp only [List.take_succ_cons, List.take_zero, List.drop_succ_cons, List.drop_zero]; change wpStill _ _ (World.drew _) _ _ _; (repeat still_step); refine wpStill_nil ?_; change wpList _ _ _ _ _ (World.drew _))
  go_wp2_with fail
  go_ret
  exact ⟨rfl, HM3.out, (Keep.of_below (by (repeat (first | exact Below.refl _ _ | assumption | refine Below.drew ?_ | refine below_many ?_ _ | refine Below.alloc ?_ (by first | (simp; done) | (simp; omega) | omega) _ | refine Below.setCell ?_ (by first | (simp; done) | (simp; omega) | omega) _)))).trans HK3.out⟩

end Go.Proofs.YtfecgcdceegdlaaDoor
