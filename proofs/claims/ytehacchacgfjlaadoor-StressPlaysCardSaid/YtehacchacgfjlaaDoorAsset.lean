/- Packages day (Left), asset (Live, Cash, Valid) and pledgeworld (Number): what each call returns. -/
import Derived.Test.YtehacchacgfjlaaDoorErr
namespace Go.Proofs.YtehacchacgfjlaaDoor
open Go Go.RowKit
set_option linter.unusedSimpArgs false
set_option linter.unusedVariables false

/-- An asset as a value. -/
abbrev assetV (id iss cls mon en : Int) : Value := .agg #[.int .i64 id, .int .i64 iss, .int .i64 cls, .int .i64 mon, .int .i64 en]
def validA (id iss cls mon en : Int) : Bool := decide (1 ≤ id ∧ id ≤ 32 ∧ 0 ≤ iss ∧ iss ≤ 32 ∧ 1 ≤ cls ∧ cls ≤ 6 ∧ 1 ≤ mon ∧ mon ≤ 6 ∧ 0 ≤ en ∧ en ≤ 40000 ∧ (cls = 1 → iss = 0 ∧ en = 0))
def leftN (en td : Int) : Int := if en = 0 then 0 else if en ≤ td then 0 else wrap64 (en - td)
def liveB (en td : Int) : Bool := decide (en = 0 ∨ td < en)

theorem left_calls (en td : Int) (w : World) :
    Calls Tryd.prog 87 #[.int .i64 en, .int .i64 td] w fun e w' => e = .returned (.tuple #[.int .i64 (leftN en td), .bool (liveB en td)]) ∧ w = w' := by
  by_cases h1 : en = 0
  · have hq : leftN en td = 0 ∧ liveB en td = true := by simp [leftN, liveB, h1]
    obtain ⟨a, b⟩ := hq
    rw [a, b]
    go_enter Tryd.func87, Tryd.ntmps87
    go_wp2
    go_ret2
    exact ⟨rfl, rfl⟩
  · by_cases h2 : en ≤ td
    · have hq : leftN en td = 0 ∧ liveB en td = false := by simp [leftN, liveB, h1, h2]
      obtain ⟨a, b⟩ := hq
      rw [a, b]
      go_enter Tryd.func87, Tryd.ntmps87
      go_wp2
      go_ret2
      exact ⟨rfl, rfl⟩
    · have hq : leftN en td = wrap64 (en - td) ∧ liveB en td = true := by simp [leftN, liveB, h1, h2]; omega
      obtain ⟨a, b⟩ := hq
      rw [a, b]
      clear a b
      go_enter Tryd.func87, Tryd.ntmps87
      go_wp2
      go_ret2
      exact ⟨rfl, rfl⟩

theorem cash_calls (id iss cls mon en : Int) (w : World) :
    Calls Tryd.prog 115 #[assetV id iss cls mon en] w fun e w' => e = .returned (.bool (cls == 1)) ∧ Below w.heap.size w w' := by
  go_enter Tryd.func115, Tryd.ntmps115
  go_wp2
  go_ret
  exact ⟨rfl, by (repeat (first | exact Below.refl _ _ | assumption | refine Below.drew ?_ | refine below_many ?_ _ | refine Below.alloc ?_ (by first | (simp; done) | (simp; omega) | omega) _ | refine Below.setCell ?_ (by first | (simp; done) | (simp; omega) | omega) _))⟩

/-- What Valid returns. -/
def validV (p : Nat → Addr) (id iss cls mon en : Int) : Value := if validA id iss cls mon en then .nilIface else ev p 2
theorem validV_ok {p : Nat → Addr} {id iss cls mon en : Int} (h : validA id iss cls mon en = true) : validV p id iss cls mon en = .nilIface := by simp [validV, h]
theorem validV_bad {p : Nat → Addr} {id iss cls mon en : Int} (h : validA id iss cls mon en = false) : validV p id iss cls mon en = ev p 2 := by simp [validV, h]

-- GEN
theorem valid_f0 {w : World} (p : Nat → Addr) (id iss cls mon en : Int) (h2 : w.cell? ⟨0, 0, none⟩ = some (ev p 2)) (hlt : 0 < w.heap.size)
     (k0 : decide (id < 1) = true) :
    Calls Tryd.prog 86 #[assetV id iss cls mon en] w fun e w' => e = .returned (ev p 2) ∧ Below w.heap.size w w' := by
  unfold ev errV at h2
  go_enter Tryd.func86, Tryd.ntmps86
  go_wp2
  go_ret
  exact ⟨rfl, by (repeat (first | exact Below.refl _ _ | assumption | refine Below.drew ?_ | refine below_many ?_ _ | refine Below.alloc ?_ (by first | (simp; done) | (simp; omega) | omega) _ | refine Below.setCell ?_ (by first | (simp; done) | (simp; omega) | omega) _))⟩

theorem valid_f1 {w : World} (p : Nat → Addr) (id iss cls mon en : Int) (h2 : w.cell? ⟨0, 0, none⟩ = some (ev p 2)) (hlt : 0 < w.heap.size)
    (k0 : decide (id < 1) = false) (k1 : decide (32 < id) = true) :
    Calls Tryd.prog 86 #[assetV id iss cls mon en] w fun e w' => e = .returned (ev p 2) ∧ Below w.heap.size w w' := by
  unfold ev errV at h2
  go_enter Tryd.func86, Tryd.ntmps86
  go_wp2
  go_ret
  exact ⟨rfl, by (repeat (first | exact Below.refl _ _ | assumption | refine Below.drew ?_ | refine below_many ?_ _ | refine Below.alloc ?_ (by first | (simp; done) | (simp; omega) | omega) _ | refine Below.setCell ?_ (by first | (simp; done) | (simp; omega) | omega) _))⟩

theorem valid_f2 {w : World} (p : Nat → Addr) (id iss cls mon en : Int) (h2 : w.cell? ⟨0, 0, none⟩ = some (ev p 2)) (hlt : 0 < w.heap.size)
    (k0 : decide (id < 1) = false) (k1 : decide (32 < id) = false) (k2 : decide (iss < 0) = true) :
    Calls Tryd.prog 86 #[assetV id iss cls mon en] w fun e w' => e = .returned (ev p 2) ∧ Below w.heap.size w w' := by
  unfold ev errV at h2
  go_enter Tryd.func86, Tryd.ntmps86
  go_wp2
  go_ret
  exact ⟨rfl, by (repeat (first | exact Below.refl _ _ | assumption | refine Below.drew ?_ | refine below_many ?_ _ | refine Below.alloc ?_ (by first | (simp; done) | (simp; omega) | omega) _ | refine Below.setCell ?_ (by first | (simp; done) | (simp; omega) | omega) _))⟩

theorem valid_f3 {w : World} (p : Nat → Addr) (id iss cls mon en : Int) (h2 : w.cell? ⟨0, 0, none⟩ = some (ev p 2)) (hlt : 0 < w.heap.size)
    (k0 : decide (id < 1) = false) (k1 : decide (32 < id) = false) (k2 : decide (iss < 0) = false) (k3 : decide (32 < iss) = true) :
    Calls Tryd.prog 86 #[assetV id iss cls mon en] w fun e w' => e = .returned (ev p 2) ∧ Below w.heap.size w w' := by
  unfold ev errV at h2
  go_enter Tryd.func86, Tryd.ntmps86
  go_wp2
  go_ret
  exact ⟨rfl, by (repeat (first | exact Below.refl _ _ | assumption | refine Below.drew ?_ | refine below_many ?_ _ | refine Below.alloc ?_ (by first | (simp; done) | (simp; omega) | omega) _ | refine Below.setCell ?_ (by first | (simp; done) | (simp; omega) | omega) _))⟩

theorem valid_f4 {w : World} (p : Nat → Addr) (id iss cls mon en : Int) (h2 : w.cell? ⟨0, 0, none⟩ = some (ev p 2)) (hlt : 0 < w.heap.size)
    (k0 : decide (id < 1) = false) (k1 : decide (32 < id) = false) (k2 : decide (iss < 0) = false) (k3 : decide (32 < iss) = false) (k4 : decide (cls < 1) = true) :
    Calls Tryd.prog 86 #[assetV id iss cls mon en] w fun e w' => e = .returned (ev p 2) ∧ Below w.heap.size w w' := by
  unfold ev errV at h2
  go_enter Tryd.func86, Tryd.ntmps86
  go_wp2
  go_ret
  exact ⟨rfl, by (repeat (first | exact Below.refl _ _ | assumption | refine Below.drew ?_ | refine below_many ?_ _ | refine Below.alloc ?_ (by first | (simp; done) | (simp; omega) | omega) _ | refine Below.setCell ?_ (by first | (simp; done) | (simp; omega) | omega) _))⟩

theorem valid_f5 {w : World} (p : Nat → Addr) (id iss cls mon en : Int) (h2 : w.cell? ⟨0, 0, none⟩ = some (ev p 2)) (hlt : 0 < w.heap.size)
    (k0 : decide (id < 1) = false) (k1 : decide (32 < id) = false) (k2 : decide (iss < 0) = false) (k3 : decide (32 < iss) = false) (k4 : decide (cls < 1) = false) (k5 : decide (6 < cls) = true) :
    Calls Tryd.prog 86 #[assetV id iss cls mon en] w fun e w' => e = .returned (ev p 2) ∧ Below w.heap.size w w' := by
  unfold ev errV at h2
  go_enter Tryd.func86, Tryd.ntmps86
  go_wp2
  go_ret
  exact ⟨rfl, by (repeat (first | exact Below.refl _ _ | assumption | refine Below.drew ?_ | refine below_many ?_ _ | refine Below.alloc ?_ (by first | (simp; done) | (simp; omega) | omega) _ | refine Below.setCell ?_ (by first | (simp; done) | (simp; omega) | omega) _))⟩

theorem valid_f6 {w : World} (p : Nat → Addr) (id iss cls mon en : Int) (h2 : w.cell? ⟨0, 0, none⟩ = some (ev p 2)) (hlt : 0 < w.heap.size)
    (k0 : decide (id < 1) = false) (k1 : decide (32 < id) = false) (k2 : decide (iss < 0) = false) (k3 : decide (32 < iss) = false) (k4 : decide (cls < 1) = false) (k5 : decide (6 < cls) = false) (k6 : decide (mon < 1) = true) :
    Calls Tryd.prog 86 #[assetV id iss cls mon en] w fun e w' => e = .returned (ev p 2) ∧ Below w.heap.size w w' := by
  unfold ev errV at h2
  go_enter Tryd.func86, Tryd.ntmps86
  go_wp2
  go_ret
  exact ⟨rfl, by (repeat (first | exact Below.refl _ _ | assumption | refine Below.drew ?_ | refine below_many ?_ _ | refine Below.alloc ?_ (by first | (simp; done) | (simp; omega) | omega) _ | refine Below.setCell ?_ (by first | (simp; done) | (simp; omega) | omega) _))⟩

theorem valid_f7 {w : World} (p : Nat → Addr) (id iss cls mon en : Int) (h2 : w.cell? ⟨0, 0, none⟩ = some (ev p 2)) (hlt : 0 < w.heap.size)
    (k0 : decide (id < 1) = false) (k1 : decide (32 < id) = false) (k2 : decide (iss < 0) = false) (k3 : decide (32 < iss) = false) (k4 : decide (cls < 1) = false) (k5 : decide (6 < cls) = false) (k6 : decide (mon < 1) = false) (k7 : decide (6 < mon) = true) :
    Calls Tryd.prog 86 #[assetV id iss cls mon en] w fun e w' => e = .returned (ev p 2) ∧ Below w.heap.size w w' := by
  unfold ev errV at h2
  go_enter Tryd.func86, Tryd.ntmps86
  go_wp2
  go_ret
  exact ⟨rfl, by (repeat (first | exact Below.refl _ _ | assumption | refine Below.drew ?_ | refine below_many ?_ _ | refine Below.alloc ?_ (by first | (simp; done) | (simp; omega) | omega) _ | refine Below.setCell ?_ (by first | (simp; done) | (simp; omega) | omega) _))⟩

theorem valid_f8 {w : World} (p : Nat → Addr) (id iss cls mon en : Int) (h2 : w.cell? ⟨0, 0, none⟩ = some (ev p 2)) (hlt : 0 < w.heap.size)
    (k0 : decide (id < 1) = false) (k1 : decide (32 < id) = false) (k2 : decide (iss < 0) = false) (k3 : decide (32 < iss) = false) (k4 : decide (cls < 1) = false) (k5 : decide (6 < cls) = false) (k6 : decide (mon < 1) = false) (k7 : decide (6 < mon) = false) (k8 : decide (en < 0) = true) :
    Calls Tryd.prog 86 #[assetV id iss cls mon en] w fun e w' => e = .returned (ev p 2) ∧ Below w.heap.size w w' := by
  unfold ev errV at h2
  go_enter Tryd.func86, Tryd.ntmps86
  go_wp2
  go_ret
  exact ⟨rfl, by (repeat (first | exact Below.refl _ _ | assumption | refine Below.drew ?_ | refine below_many ?_ _ | refine Below.alloc ?_ (by first | (simp; done) | (simp; omega) | omega) _ | refine Below.setCell ?_ (by first | (simp; done) | (simp; omega) | omega) _))⟩

theorem valid_f9 {w : World} (p : Nat → Addr) (id iss cls mon en : Int) (h2 : w.cell? ⟨0, 0, none⟩ = some (ev p 2)) (hlt : 0 < w.heap.size)
    (k0 : decide (id < 1) = false) (k1 : decide (32 < id) = false) (k2 : decide (iss < 0) = false) (k3 : decide (32 < iss) = false) (k4 : decide (cls < 1) = false) (k5 : decide (6 < cls) = false) (k6 : decide (mon < 1) = false) (k7 : decide (6 < mon) = false) (k8 : decide (en < 0) = false) (k9 : decide (40000 < en) = true) :
    Calls Tryd.prog 86 #[assetV id iss cls mon en] w fun e w' => e = .returned (ev p 2) ∧ Below w.heap.size w w' := by
  unfold ev errV at h2
  go_enter Tryd.func86, Tryd.ntmps86
  go_wp2
  go_ret
  exact ⟨rfl, by (repeat (first | exact Below.refl _ _ | assumption | refine Below.drew ?_ | refine below_many ?_ _ | refine Below.alloc ?_ (by first | (simp; done) | (simp; omega) | omega) _ | refine Below.setCell ?_ (by first | (simp; done) | (simp; omega) | omega) _))⟩

theorem valid_fc1 {w : World} (p : Nat → Addr) (id iss cls mon en : Int) (h2 : w.cell? ⟨0, 0, none⟩ = some (ev p 2)) (hlt : 0 < w.heap.size)
    (k0 : decide (id < 1) = false) (k1 : decide (32 < id) = false) (k2 : decide (iss < 0) = false) (k3 : decide (32 < iss) = false) (k4 : decide (cls < 1) = false) (k5 : decide (6 < cls) = false) (k6 : decide (mon < 1) = false) (k7 : decide (6 < mon) = false) (k8 : decide (en < 0) = false) (k9 : decide (40000 < en) = false) (kc : (cls == 1) = true) (ki : (iss != 0) = true) :
    Calls Tryd.prog 86 #[assetV id iss cls mon en] w fun e w' => e = .returned (ev p 2) ∧ Below w.heap.size w w' := by
  unfold ev errV at h2
  have hz : 0 < w.heap.size := by omega
  go_enter Tryd.func86, Tryd.ntmps86
  go_wp2_with fail
  refine (cash_calls _ _ _ _ _ _).mono ?_
  rintro e w1 ⟨rfl, hb⟩
  obtain ⟨hc, hf⟩ := bcell hb
  have h0 : Below w.heap.size w w1 := ((Below.refl _ _).alloc (Nat.le_refl _) _).trans (hb.mono (by simp))
  clear hb
  go_wp2_with fail
  go_ret
  exact ⟨rfl, by (repeat (first | exact Below.refl _ _ | assumption | refine Below.drew ?_ | refine below_many ?_ _ | refine Below.alloc ?_ (by first | (simp; done) | (simp; omega) | omega) _ | refine Below.setCell ?_ (by first | (simp; done) | (simp; omega) | omega) _))⟩

theorem valid_fc2 {w : World} (p : Nat → Addr) (id iss cls mon en : Int) (h2 : w.cell? ⟨0, 0, none⟩ = some (ev p 2)) (hlt : 0 < w.heap.size)
    (k0 : decide (id < 1) = false) (k1 : decide (32 < id) = false) (k2 : decide (iss < 0) = false) (k3 : decide (32 < iss) = false) (k4 : decide (cls < 1) = false) (k5 : decide (6 < cls) = false) (k6 : decide (mon < 1) = false) (k7 : decide (6 < mon) = false) (k8 : decide (en < 0) = false) (k9 : decide (40000 < en) = false) (kc : (cls == 1) = true) (ki : (iss != 0) = false) (ke : (en != 0) = true) :
    Calls Tryd.prog 86 #[assetV id iss cls mon en] w fun e w' => e = .returned (ev p 2) ∧ Below w.heap.size w w' := by
  unfold ev errV at h2
  have hz : 0 < w.heap.size := by omega
  go_enter Tryd.func86, Tryd.ntmps86
  go_wp2_with fail
  refine (cash_calls _ _ _ _ _ _).mono ?_
  rintro e w1 ⟨rfl, hb⟩
  obtain ⟨hc, hf⟩ := bcell hb
  have h0 : Below w.heap.size w w1 := ((Below.refl _ _).alloc (Nat.le_refl _) _).trans (hb.mono (by simp))
  clear hb
  go_wp2_with fail
  go_ret
  exact ⟨rfl, by (repeat (first | exact Below.refl _ _ | assumption | refine Below.drew ?_ | refine below_many ?_ _ | refine Below.alloc ?_ (by first | (simp; done) | (simp; omega) | omega) _ | refine Below.setCell ?_ (by first | (simp; done) | (simp; omega) | omega) _))⟩

theorem valid_t1 {w : World} (p : Nat → Addr) (id iss cls mon en : Int) (h2 : w.cell? ⟨0, 0, none⟩ = some (ev p 2)) (hlt : 0 < w.heap.size)
    (k0 : decide (id < 1) = false) (k1 : decide (32 < id) = false) (k2 : decide (iss < 0) = false) (k3 : decide (32 < iss) = false) (k4 : decide (cls < 1) = false) (k5 : decide (6 < cls) = false) (k6 : decide (mon < 1) = false) (k7 : decide (6 < mon) = false) (k8 : decide (en < 0) = false) (k9 : decide (40000 < en) = false) (kc : (cls == 1) = true) (ki : (iss != 0) = false) (ke : (en != 0) = false) :
    Calls Tryd.prog 86 #[assetV id iss cls mon en] w fun e w' => e = .returned .nilIface ∧ Below w.heap.size w w' := by
  unfold ev errV at h2
  go_enter Tryd.func86, Tryd.ntmps86
  go_wp2_with fail
  refine (cash_calls _ _ _ _ _ _).mono ?_
  rintro e w1 ⟨rfl, hb⟩
  obtain ⟨hc, hf⟩ := bcell hb
  have h0 : Below w.heap.size w w1 := ((Below.refl _ _).alloc (Nat.le_refl _) _).trans (hb.mono (by simp))
  clear hb
  go_wp2_with fail
  go_ret
  exact ⟨rfl, by (repeat (first | exact Below.refl _ _ | assumption | refine Below.drew ?_ | refine below_many ?_ _ | refine Below.alloc ?_ (by first | (simp; done) | (simp; omega) | omega) _ | refine Below.setCell ?_ (by first | (simp; done) | (simp; omega) | omega) _))⟩

theorem valid_t2 {w : World} (p : Nat → Addr) (id iss cls mon en : Int) (h2 : w.cell? ⟨0, 0, none⟩ = some (ev p 2)) (hlt : 0 < w.heap.size)
    (k0 : decide (id < 1) = false) (k1 : decide (32 < id) = false) (k2 : decide (iss < 0) = false) (k3 : decide (32 < iss) = false) (k4 : decide (cls < 1) = false) (k5 : decide (6 < cls) = false) (k6 : decide (mon < 1) = false) (k7 : decide (6 < mon) = false) (k8 : decide (en < 0) = false) (k9 : decide (40000 < en) = false) (kc : (cls == 1) = false) :
    Calls Tryd.prog 86 #[assetV id iss cls mon en] w fun e w' => e = .returned .nilIface ∧ Below w.heap.size w w' := by
  unfold ev errV at h2
  go_enter Tryd.func86, Tryd.ntmps86
  go_wp2_with fail
  refine (cash_calls _ _ _ _ _ _).mono ?_
  rintro e w1 ⟨rfl, hb⟩
  obtain ⟨hc, hf⟩ := bcell hb
  have h0 : Below w.heap.size w w1 := ((Below.refl _ _).alloc (Nat.le_refl _) _).trans (hb.mono (by simp))
  clear hb
  go_wp2_with fail
  go_ret
  exact ⟨rfl, by (repeat (first | exact Below.refl _ _ | assumption | refine Below.drew ?_ | refine below_many ?_ _ | refine Below.alloc ?_ (by first | (simp; done) | (simp; omega) | omega) _ | refine Below.setCell ?_ (by first | (simp; done) | (simp; omega) | omega) _))⟩

theorem valid_calls {ks : List Nat} {B : Nat} {p : Nat → Addr} {w : World} (hE : Errs ks B p w) (hk : 2 ∈ ks) (id iss cls mon en : Int) :
    Calls Tryd.prog 86 #[assetV id iss cls mon en] w fun e w' => e = .returned (validV p id iss cls mon en) ∧ Below w.heap.size w w' := by
  have h2 : w.cell? ⟨0, 0, none⟩ = some (ev p 2) := hE.cell 2 hk
  have hlt : 0 < w.heap.size := Nat.lt_of_lt_of_le (hE.lt 2 hk).1 hE.size
  by_cases c0 : id < 1
  · rw [validV_bad (by simp only [validA, decide_eq_false_iff_not]; omega)]
    exact valid_f0 p id iss cls mon en h2 hlt  (decide_eq_true c0)
  by_cases c1 : 32 < id
  · rw [validV_bad (by simp only [validA, decide_eq_false_iff_not]; omega)]
    exact valid_f1 p id iss cls mon en h2 hlt (decide_eq_false c0) (decide_eq_true c1)
  by_cases c2 : iss < 0
  · rw [validV_bad (by simp only [validA, decide_eq_false_iff_not]; omega)]
    exact valid_f2 p id iss cls mon en h2 hlt (decide_eq_false c0) (decide_eq_false c1) (decide_eq_true c2)
  by_cases c3 : 32 < iss
  · rw [validV_bad (by simp only [validA, decide_eq_false_iff_not]; omega)]
    exact valid_f3 p id iss cls mon en h2 hlt (decide_eq_false c0) (decide_eq_false c1) (decide_eq_false c2) (decide_eq_true c3)
  by_cases c4 : cls < 1
  · rw [validV_bad (by simp only [validA, decide_eq_false_iff_not]; omega)]
    exact valid_f4 p id iss cls mon en h2 hlt (decide_eq_false c0) (decide_eq_false c1) (decide_eq_false c2) (decide_eq_false c3) (decide_eq_true c4)
  by_cases c5 : 6 < cls
  · rw [validV_bad (by simp only [validA, decide_eq_false_iff_not]; omega)]
    exact valid_f5 p id iss cls mon en h2 hlt (decide_eq_false c0) (decide_eq_false c1) (decide_eq_false c2) (decide_eq_false c3) (decide_eq_false c4) (decide_eq_true c5)
  by_cases c6 : mon < 1
  · rw [validV_bad (by simp only [validA, decide_eq_false_iff_not]; omega)]
    exact valid_f6 p id iss cls mon en h2 hlt (decide_eq_false c0) (decide_eq_false c1) (decide_eq_false c2) (decide_eq_false c3) (decide_eq_false c4) (decide_eq_false c5) (decide_eq_true c6)
  by_cases c7 : 6 < mon
  · rw [validV_bad (by simp only [validA, decide_eq_false_iff_not]; omega)]
    exact valid_f7 p id iss cls mon en h2 hlt (decide_eq_false c0) (decide_eq_false c1) (decide_eq_false c2) (decide_eq_false c3) (decide_eq_false c4) (decide_eq_false c5) (decide_eq_false c6) (decide_eq_true c7)
  by_cases c8 : en < 0
  · rw [validV_bad (by simp only [validA, decide_eq_false_iff_not]; omega)]
    exact valid_f8 p id iss cls mon en h2 hlt (decide_eq_false c0) (decide_eq_false c1) (decide_eq_false c2) (decide_eq_false c3) (decide_eq_false c4) (decide_eq_false c5) (decide_eq_false c6) (decide_eq_false c7) (decide_eq_true c8)
  by_cases c9 : 40000 < en
  · rw [validV_bad (by simp only [validA, decide_eq_false_iff_not]; omega)]
    exact valid_f9 p id iss cls mon en h2 hlt (decide_eq_false c0) (decide_eq_false c1) (decide_eq_false c2) (decide_eq_false c3) (decide_eq_false c4) (decide_eq_false c5) (decide_eq_false c6) (decide_eq_false c7) (decide_eq_false c8) (decide_eq_true c9)
  by_cases kc : cls = 1
  · by_cases ki : iss = 0
    · by_cases ke : en = 0
      · rw [validV_ok (by simp only [validA, decide_eq_true_eq]; omega)]
        exact valid_t1 p id iss cls mon en h2 hlt (decide_eq_false c0) (decide_eq_false c1) (decide_eq_false c2) (decide_eq_false c3) (decide_eq_false c4) (decide_eq_false c5) (decide_eq_false c6) (decide_eq_false c7) (decide_eq_false c8) (decide_eq_false c9) (by simpa using kc) (by simpa using ki) (by simpa using ke)
      · rw [validV_bad (by simp only [validA, decide_eq_false_iff_not]; omega)]
        exact valid_fc2 p id iss cls mon en h2 hlt (decide_eq_false c0) (decide_eq_false c1) (decide_eq_false c2) (decide_eq_false c3) (decide_eq_false c4) (decide_eq_false c5) (decide_eq_false c6) (decide_eq_false c7) (decide_eq_false c8) (decide_eq_false c9) (by simpa using kc) (by simpa using ki) (by simpa using ke)
    · rw [validV_bad (by simp only [validA, decide_eq_false_iff_not]; omega)]
      exact valid_fc1 p id iss cls mon en h2 hlt (decide_eq_false c0) (decide_eq_false c1) (decide_eq_false c2) (decide_eq_false c3) (decide_eq_false c4) (decide_eq_false c5) (decide_eq_false c6) (decide_eq_false c7) (decide_eq_false c8) (decide_eq_false c9) (by simpa using kc) (by simpa using ki)
  · rw [validV_ok (by simp only [validA, decide_eq_true_eq]; omega)]
    exact valid_t2 p id iss cls mon en h2 hlt (decide_eq_false c0) (decide_eq_false c1) (decide_eq_false c2) (decide_eq_false c3) (decide_eq_false c4) (decide_eq_false c5) (decide_eq_false c6) (decide_eq_false c7) (decide_eq_false c8) (decide_eq_false c9) (by simpa using kc)

end Go.Proofs.YtehacchacgfjlaaDoor
