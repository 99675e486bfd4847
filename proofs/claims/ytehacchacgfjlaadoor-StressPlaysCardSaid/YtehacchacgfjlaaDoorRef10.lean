/- Package pledgeref10: in, Live, ValidAsset: what each call returns. -/
import Derived.Test.YtehacchacgfjlaaDoorAsset
namespace Go.Proofs.YtehacchacgfjlaaDoor
open Go.Maps
open Go Go.RowKit
set_option linter.unusedSimpArgs false
set_option linter.unusedVariables false

theorem in10_calls (n lo hi : Int) (w : World) : Calls Tryd.prog 89 #[.int .i64 n, .int .i64 lo, .int .i64 hi] w fun e w' => e = .returned (.bool (decide (lo ≤ n ∧ n ≤ hi))) ∧ w = w' := by
  by_cases h1 : lo ≤ n
  · by_cases h2 : n ≤ hi
    · rw [show decide (lo ≤ n ∧ n ≤ hi) = true from decide_eq_true ⟨h1, h2⟩]
      go_enter Tryd.func89, Tryd.ntmps89
      go_wp2
      go_ret
      exact ⟨rfl, rfl⟩
    · rw [show decide (lo ≤ n ∧ n ≤ hi) = false from decide_eq_false (fun h => h2 h.2)]
      go_enter Tryd.func89, Tryd.ntmps89
      go_wp2
      go_ret
      exact ⟨rfl, rfl⟩
  · rw [show decide (lo ≤ n ∧ n ≤ hi) = false from decide_eq_false (fun h => h1 h.1)]
    go_enter Tryd.func89, Tryd.ntmps89
    go_wp2
    go_ret
    exact ⟨rfl, rfl⟩

theorem liveRef_calls (id iss cls mon en td : Int) (w : World) :
    Calls Tryd.prog 90 #[assetV id iss cls mon en, .int .i64 td] w fun e w' => e = .returned (.bool (liveB en td)) ∧ Below w.heap.size w w' := by
  by_cases h1 : en = 0
  · rw [show liveB en td = true by simp [liveB, h1]]
    go_enter Tryd.func90, Tryd.ntmps90
    go_wp2
    go_ret
    exact ⟨rfl, by (repeat (first | exact Below.refl _ _ | assumption | refine Below.drew ?_ | refine below_many ?_ _ | refine Below.alloc ?_ (by first | (simp; done) | (simp; omega) | omega) _ | refine Below.setCell ?_ (by first | (simp; done) | (simp; omega) | omega) _))⟩
  · by_cases h2 : td < en
    · rw [show liveB en td = true by simp [liveB, h2]]
      go_enter Tryd.func90, Tryd.ntmps90
      go_wp2
      go_ret
      exact ⟨rfl, by (repeat (first | exact Below.refl _ _ | assumption | refine Below.drew ?_ | refine below_many ?_ _ | refine Below.alloc ?_ (by first | (simp; done) | (simp; omega) | omega) _ | refine Below.setCell ?_ (by first | (simp; done) | (simp; omega) | omega) _))⟩
    · have h3 : en ≤ td := by omega
      have h1' : (en == 0) = false := by simpa using h1
      rw [show liveB en td = false by simp [liveB, h1, h2]]
      go_enter Tryd.func90, Tryd.ntmps90
      go_wp2
      go_ret
      exact ⟨rfl, by (repeat (first | exact Below.refl _ _ | assumption | refine Below.drew ?_ | refine below_many ?_ _ | refine Below.alloc ?_ (by first | (simp; done) | (simp; omega) | omega) _ | refine Below.setCell ?_ (by first | (simp; done) | (simp; omega) | omega) _))⟩

theorem validRef_f0 {w : World} (id iss cls mon en : Int)  (k0 : decide (1 ≤ id ∧ id ≤ 32) = false) :
    Calls Tryd.prog 49 #[assetV id iss cls mon en] w fun e w' => e = .returned (.int .i64 103) ∧ Below w.heap.size w w' := by
  go_enter Tryd.func49, Tryd.ntmps49
  go_wp2_with fail
  refine (in10_calls _ _ _ _).mono ?_
  rintro e _ ⟨rfl, rfl⟩
  rw [k0]
  go_wp2_with fail
  go_ret
  exact ⟨rfl, by (repeat (first | exact Below.refl _ _ | assumption | refine Below.drew ?_ | refine below_many ?_ _ | refine Below.alloc ?_ (by first | (simp; done) | (simp; omega) | omega) _ | refine Below.setCell ?_ (by first | (simp; done) | (simp; omega) | omega) _))⟩

theorem validRef_f1 {w : World} (id iss cls mon en : Int) (k0 : decide (1 ≤ id ∧ id ≤ 32) = true) (k1 : decide (0 ≤ iss ∧ iss ≤ 32) = false) :
    Calls Tryd.prog 49 #[assetV id iss cls mon en] w fun e w' => e = .returned (.int .i64 103) ∧ Below w.heap.size w w' := by
  go_enter Tryd.func49, Tryd.ntmps49
  go_wp2_with fail
  refine (in10_calls _ _ _ _).mono ?_
  rintro e _ ⟨rfl, rfl⟩
  rw [k0]
  go_wp2_with fail
  refine (in10_calls _ _ _ _).mono ?_
  rintro e _ ⟨rfl, rfl⟩
  rw [k1]
  go_wp2_with fail
  go_ret
  exact ⟨rfl, by (repeat (first | exact Below.refl _ _ | assumption | refine Below.drew ?_ | refine below_many ?_ _ | refine Below.alloc ?_ (by first | (simp; done) | (simp; omega) | omega) _ | refine Below.setCell ?_ (by first | (simp; done) | (simp; omega) | omega) _))⟩

theorem validRef_f2 {w : World} (id iss cls mon en : Int) (k0 : decide (1 ≤ id ∧ id ≤ 32) = true) (k1 : decide (0 ≤ iss ∧ iss ≤ 32) = true) (k2 : decide (1 ≤ cls ∧ cls ≤ 6) = false) :
    Calls Tryd.prog 49 #[assetV id iss cls mon en] w fun e w' => e = .returned (.int .i64 103) ∧ Below w.heap.size w w' := by
  go_enter Tryd.func49, Tryd.ntmps49
  go_wp2_with fail
  refine (in10_calls _ _ _ _).mono ?_
  rintro e _ ⟨rfl, rfl⟩
  rw [k0]
  go_wp2_with fail
  refine (in10_calls _ _ _ _).mono ?_
  rintro e _ ⟨rfl, rfl⟩
  rw [k1]
  go_wp2_with fail
  refine (in10_calls _ _ _ _).mono ?_
  rintro e _ ⟨rfl, rfl⟩
  rw [k2]
  go_wp2_with fail
  go_ret
  exact ⟨rfl, by (repeat (first | exact Below.refl _ _ | assumption | refine Below.drew ?_ | refine below_many ?_ _ | refine Below.alloc ?_ (by first | (simp; done) | (simp; omega) | omega) _ | refine Below.setCell ?_ (by first | (simp; done) | (simp; omega) | omega) _))⟩

theorem validRef_f3 {w : World} (id iss cls mon en : Int) (k0 : decide (1 ≤ id ∧ id ≤ 32) = true) (k1 : decide (0 ≤ iss ∧ iss ≤ 32) = true) (k2 : decide (1 ≤ cls ∧ cls ≤ 6) = true) (k3 : decide (1 ≤ mon ∧ mon ≤ 6) = false) :
    Calls Tryd.prog 49 #[assetV id iss cls mon en] w fun e w' => e = .returned (.int .i64 103) ∧ Below w.heap.size w w' := by
  go_enter Tryd.func49, Tryd.ntmps49
  go_wp2_with fail
  refine (in10_calls _ _ _ _).mono ?_
  rintro e _ ⟨rfl, rfl⟩
  rw [k0]
  go_wp2_with fail
  refine (in10_calls _ _ _ _).mono ?_
  rintro e _ ⟨rfl, rfl⟩
  rw [k1]
  go_wp2_with fail
  refine (in10_calls _ _ _ _).mono ?_
  rintro e _ ⟨rfl, rfl⟩
  rw [k2]
  go_wp2_with fail
  refine (in10_calls _ _ _ _).mono ?_
  rintro e _ ⟨rfl, rfl⟩
  rw [k3]
  go_wp2_with fail
  go_ret
  exact ⟨rfl, by (repeat (first | exact Below.refl _ _ | assumption | refine Below.drew ?_ | refine below_many ?_ _ | refine Below.alloc ?_ (by first | (simp; done) | (simp; omega) | omega) _ | refine Below.setCell ?_ (by first | (simp; done) | (simp; omega) | omega) _))⟩

theorem validRef_f4 {w : World} (id iss cls mon en : Int) (k0 : decide (1 ≤ id ∧ id ≤ 32) = true) (k1 : decide (0 ≤ iss ∧ iss ≤ 32) = true) (k2 : decide (1 ≤ cls ∧ cls ≤ 6) = true) (k3 : decide (1 ≤ mon ∧ mon ≤ 6) = true) (k4 : decide (0 ≤ en ∧ en ≤ 40000) = false) :
    Calls Tryd.prog 49 #[assetV id iss cls mon en] w fun e w' => e = .returned (.int .i64 103) ∧ Below w.heap.size w w' := by
  go_enter Tryd.func49, Tryd.ntmps49
  go_wp2_with fail
  refine (in10_calls _ _ _ _).mono ?_
  rintro e _ ⟨rfl, rfl⟩
  rw [k0]
  go_wp2_with fail
  refine (in10_calls _ _ _ _).mono ?_
  rintro e _ ⟨rfl, rfl⟩
  rw [k1]
  go_wp2_with fail
  refine (in10_calls _ _ _ _).mono ?_
  rintro e _ ⟨rfl, rfl⟩
  rw [k2]
  go_wp2_with fail
  refine (in10_calls _ _ _ _).mono ?_
  rintro e _ ⟨rfl, rfl⟩
  rw [k3]
  go_wp2_with fail
  refine (in10_calls _ _ _ _).mono ?_
  rintro e _ ⟨rfl, rfl⟩
  rw [k4]
  go_wp2_with fail
  go_ret
  exact ⟨rfl, by (repeat (first | exact Below.refl _ _ | assumption | refine Below.drew ?_ | refine below_many ?_ _ | refine Below.alloc ?_ (by first | (simp; done) | (simp; omega) | omega) _ | refine Below.setCell ?_ (by first | (simp; done) | (simp; omega) | omega) _))⟩

theorem validRef_fc1 {w : World} (id iss cls mon en : Int) (k0 : decide (1 ≤ id ∧ id ≤ 32) = true) (k1 : decide (0 ≤ iss ∧ iss ≤ 32) = true) (k2 : decide (1 ≤ cls ∧ cls ≤ 6) = true) (k3 : decide (1 ≤ mon ∧ mon ≤ 6) = true) (k4 : decide (0 ≤ en ∧ en ≤ 40000) = true) (kc : (cls == 1) = true) (ki : (iss != 0) = true) :
    Calls Tryd.prog 49 #[assetV id iss cls mon en] w fun e w' => e = .returned (.int .i64 103) ∧ Below w.heap.size w w' := by
  go_enter Tryd.func49, Tryd.ntmps49
  go_wp2_with fail
  refine (in10_calls _ _ _ _).mono ?_
  rintro e _ ⟨rfl, rfl⟩
  rw [k0]
  go_wp2_with fail
  refine (in10_calls _ _ _ _).mono ?_
  rintro e _ ⟨rfl, rfl⟩
  rw [k1]
  go_wp2_with fail
  refine (in10_calls _ _ _ _).mono ?_
  rintro e _ ⟨rfl, rfl⟩
  rw [k2]
  go_wp2_with fail
  refine (in10_calls _ _ _ _).mono ?_
  rintro e _ ⟨rfl, rfl⟩
  rw [k3]
  go_wp2_with fail
  refine (in10_calls _ _ _ _).mono ?_
  rintro e _ ⟨rfl, rfl⟩
  rw [k4]
  go_wp2_with fail
  go_ret
  exact ⟨rfl, by (repeat (first | exact Below.refl _ _ | assumption | refine Below.drew ?_ | refine below_many ?_ _ | refine Below.alloc ?_ (by first | (simp; done) | (simp; omega) | omega) _ | refine Below.setCell ?_ (by first | (simp; done) | (simp; omega) | omega) _))⟩

theorem validRef_fc2 {w : World} (id iss cls mon en : Int) (k0 : decide (1 ≤ id ∧ id ≤ 32) = true) (k1 : decide (0 ≤ iss ∧ iss ≤ 32) = true) (k2 : decide (1 ≤ cls ∧ cls ≤ 6) = true) (k3 : decide (1 ≤ mon ∧ mon ≤ 6) = true) (k4 : decide (0 ≤ en ∧ en ≤ 40000) = true) (kc : (cls == 1) = true) (ki : (iss != 0) = false) (ke : (en != 0) = true) :
    Calls Tryd.prog 49 #[assetV id iss cls mon en] w fun e w' => e = .returned (.int .i64 103) ∧ Below w.heap.size w w' := by
  go_enter Tryd.func49, Tryd.ntmps49
  go_wp2_with fail
  refine (in10_calls _ _ _ _).mono ?_
  rintro e _ ⟨rfl, rfl⟩
  rw [k0]
  go_wp2_with fail
  refine (in10_calls _ _ _ _).mono ?_
  rintro e _ ⟨rfl, rfl⟩
  rw [k1]
  go_wp2_with fail
  refine (in10_calls _ _ _ _).mono ?_
  rintro e _ ⟨rfl, rfl⟩
  rw [k2]
  go_wp2_with fail
  refine (in10_calls _ _ _ _).mono ?_
  rintro e _ ⟨rfl, rfl⟩
  rw [k3]
  go_wp2_with fail
  refine (in10_calls _ _ _ _).mono ?_
  rintro e _ ⟨rfl, rfl⟩
  rw [k4]
  go_wp2_with fail
  go_ret
  exact ⟨rfl, by (repeat (first | exact Below.refl _ _ | assumption | refine Below.drew ?_ | refine below_many ?_ _ | refine Below.alloc ?_ (by first | (simp; done) | (simp; omega) | omega) _ | refine Below.setCell ?_ (by first | (simp; done) | (simp; omega) | omega) _))⟩

theorem validRef_t1 {w : World} (id iss cls mon en : Int) (k0 : decide (1 ≤ id ∧ id ≤ 32) = true) (k1 : decide (0 ≤ iss ∧ iss ≤ 32) = true) (k2 : decide (1 ≤ cls ∧ cls ≤ 6) = true) (k3 : decide (1 ≤ mon ∧ mon ≤ 6) = true) (k4 : decide (0 ≤ en ∧ en ≤ 40000) = true) (kc : (cls == 1) = true) (ki : (iss != 0) = false) (ke : (en != 0) = false) :
    Calls Tryd.prog 49 #[assetV id iss cls mon en] w fun e w' => e = .returned (.int .i64 0) ∧ Below w.heap.size w w' := by
  go_enter Tryd.func49, Tryd.ntmps49
  go_wp2_with fail
  refine (in10_calls _ _ _ _).mono ?_
  rintro e _ ⟨rfl, rfl⟩
  rw [k0]
  go_wp2_with fail
  refine (in10_calls _ _ _ _).mono ?_
  rintro e _ ⟨rfl, rfl⟩
  rw [k1]
  go_wp2_with fail
  refine (in10_calls _ _ _ _).mono ?_
  rintro e _ ⟨rfl, rfl⟩
  rw [k2]
  go_wp2_with fail
  refine (in10_calls _ _ _ _).mono ?_
  rintro e _ ⟨rfl, rfl⟩
  rw [k3]
  go_wp2_with fail
  refine (in10_calls _ _ _ _).mono ?_
  rintro e _ ⟨rfl, rfl⟩
  rw [k4]
  go_wp2_with fail
  go_ret
  exact ⟨rfl, by (repeat (first | exact Below.refl _ _ | assumption | refine Below.drew ?_ | refine below_many ?_ _ | refine Below.alloc ?_ (by first | (simp; done) | (simp; omega) | omega) _ | refine Below.setCell ?_ (by first | (simp; done) | (simp; omega) | omega) _))⟩

theorem validRef_t2 {w : World} (id iss cls mon en : Int) (k0 : decide (1 ≤ id ∧ id ≤ 32) = true) (k1 : decide (0 ≤ iss ∧ iss ≤ 32) = true) (k2 : decide (1 ≤ cls ∧ cls ≤ 6) = true) (k3 : decide (1 ≤ mon ∧ mon ≤ 6) = true) (k4 : decide (0 ≤ en ∧ en ≤ 40000) = true) (kc : (cls == 1) = false) :
    Calls Tryd.prog 49 #[assetV id iss cls mon en] w fun e w' => e = .returned (.int .i64 0) ∧ Below w.heap.size w w' := by
  go_enter Tryd.func49, Tryd.ntmps49
  go_wp2_with fail
  refine (in10_calls _ _ _ _).mono ?_
  rintro e _ ⟨rfl, rfl⟩
  rw [k0]
  go_wp2_with fail
  refine (in10_calls _ _ _ _).mono ?_
  rintro e _ ⟨rfl, rfl⟩
  rw [k1]
  go_wp2_with fail
  refine (in10_calls _ _ _ _).mono ?_
  rintro e _ ⟨rfl, rfl⟩
  rw [k2]
  go_wp2_with fail
  refine (in10_calls _ _ _ _).mono ?_
  rintro e _ ⟨rfl, rfl⟩
  rw [k3]
  go_wp2_with fail
  refine (in10_calls _ _ _ _).mono ?_
  rintro e _ ⟨rfl, rfl⟩
  rw [k4]
  go_wp2_with fail
  go_ret
  exact ⟨rfl, by (repeat (first | exact Below.refl _ _ | assumption | refine Below.drew ?_ | refine below_many ?_ _ | refine Below.alloc ?_ (by first | (simp; done) | (simp; omega) | omega) _ | refine Below.setCell ?_ (by first | (simp; done) | (simp; omega) | omega) _))⟩

def validN (id iss cls mon en : Int) : Int := if validA id iss cls mon en then 0 else 103
theorem validN_ok {id iss cls mon en : Int} (h : validA id iss cls mon en = true) : validN id iss cls mon en = 0 := by simp [validN, h]
theorem validN_bad {id iss cls mon en : Int} (h : validA id iss cls mon en = false) : validN id iss cls mon en = 103 := by simp [validN, h]
theorem validRef_calls {w : World} (id iss cls mon en : Int) :
    Calls Tryd.prog 49 #[assetV id iss cls mon en] w fun e w' => e = .returned (.int .i64 (validN id iss cls mon en)) ∧ Below w.heap.size w w' := by
  by_cases c0 : 1 ≤ id ∧ id ≤ 32
  case neg =>
    rw [validN_bad (by simp only [validA, decide_eq_false_iff_not]; omega)]
    exact validRef_f0 id iss cls mon en  (decide_eq_false c0)
  by_cases c1 : 0 ≤ iss ∧ iss ≤ 32
  case neg =>
    rw [validN_bad (by simp only [validA, decide_eq_false_iff_not]; omega)]
    exact validRef_f1 id iss cls mon en (decide_eq_true c0) (decide_eq_false c1)
  by_cases c2 : 1 ≤ cls ∧ cls ≤ 6
  case neg =>
    rw [validN_bad (by simp only [validA, decide_eq_false_iff_not]; omega)]
    exact validRef_f2 id iss cls mon en (decide_eq_true c0) (decide_eq_true c1) (decide_eq_false c2)
  by_cases c3 : 1 ≤ mon ∧ mon ≤ 6
  case neg =>
    rw [validN_bad (by simp only [validA, decide_eq_false_iff_not]; omega)]
    exact validRef_f3 id iss cls mon en (decide_eq_true c0) (decide_eq_true c1) (decide_eq_true c2) (decide_eq_false c3)
  by_cases c4 : 0 ≤ en ∧ en ≤ 40000
  case neg =>
    rw [validN_bad (by simp only [validA, decide_eq_false_iff_not]; omega)]
    exact validRef_f4 id iss cls mon en (decide_eq_true c0) (decide_eq_true c1) (decide_eq_true c2) (decide_eq_true c3) (decide_eq_false c4)
  by_cases kc : cls = 1
  · by_cases ki : iss = 0
    · by_cases ke : en = 0
      · rw [validN_ok (by simp only [validA, decide_eq_true_eq]; omega)]
        exact validRef_t1 id iss cls mon en (decide_eq_true c0) (decide_eq_true c1) (decide_eq_true c2) (decide_eq_true c3) (decide_eq_true c4) (by simpa using kc) (by simpa using ki) (by simpa using ke)
      · rw [validN_bad (by simp only [validA, decide_eq_false_iff_not]; omega)]
        exact validRef_fc2 id iss cls mon en (decide_eq_true c0) (decide_eq_true c1) (decide_eq_true c2) (decide_eq_true c3) (decide_eq_true c4) (by simpa using kc) (by simpa using ki) (by simpa using ke)
    · rw [validN_bad (by simp only [validA, decide_eq_false_iff_not]; omega)]
      exact validRef_fc1 id iss cls mon en (decide_eq_true c0) (decide_eq_true c1) (decide_eq_true c2) (decide_eq_true c3) (decide_eq_true c4) (by simpa using kc) (by simpa using ki)
  · rw [validN_ok (by simp only [validA, decide_eq_true_eq]; omega)]
    exact validRef_t2 id iss cls mon en (decide_eq_true c0) (decide_eq_true c1) (decide_eq_true c2) (decide_eq_true c3) (decide_eq_true c4) (by simpa using kc)

end Go.Proofs.YtehacchacgfjlaaDoor
