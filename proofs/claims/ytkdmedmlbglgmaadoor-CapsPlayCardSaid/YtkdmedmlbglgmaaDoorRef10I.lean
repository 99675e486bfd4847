/- Package pledgeref10: in, amount: what each call returns. -/
import Derived.Test.YtkdmedmlbglgmaaDoorAmt
namespace Go.Proofs.YtkdmedmlbglgmaaDoor
open Go.Maps
open Go Go.RowKit
set_option linter.unusedSimpArgs false
set_option linter.unusedVariables false

theorem in10I_calls (n lo hi : Int) (w : World) : Calls Tryd.prog 46 #[.int .i64 n, .int .i64 lo, .int .i64 hi] w fun e w' => e = .returned (.bool (decide (lo ≤ n ∧ n ≤ hi))) ∧ w = w' := by
  by_cases h1 : lo ≤ n
  · by_cases h2 : n ≤ hi
    · rw [show decide (lo ≤ n ∧ n ≤ hi) = true from decide_eq_true ⟨h1, h2⟩]
      go_enter Tryd.func46, Tryd.ntmps46
      go_wp2
      go_ret
      exact ⟨rfl, rfl⟩
    · rw [show decide (lo ≤ n ∧ n ≤ hi) = false from decide_eq_false (fun h => h2 h.2)]
      go_enter Tryd.func46, Tryd.ntmps46
      go_wp2
      go_ret
      exact ⟨rfl, rfl⟩
  · rw [show decide (lo ≤ n ∧ n ≤ hi) = false from decide_eq_false (fun h => h1 h.1)]
    go_enter Tryd.func46, Tryd.ntmps46
    go_wp2
    go_ret
    exact ⟨rfl, rfl⟩

theorem amount10I_calls (n : Int) (w : World) : Calls Tryd.prog 45 #[.int .i64 n] w fun e w' => e = .returned (.bool (isAmt n)) ∧ w = w' := by
  by_cases h : 0 ≤ n
  · have h' : decide (0 ≤ n) = true := decide_eq_true h
    rw [show isAmt n = decide (n ≤ 1000000000000000) from decide_eq_decide.2 (by omega)]
    go_enter Tryd.func45, Tryd.ntmps45
    go_wp2
    go_ret
    exact ⟨rfl, rfl⟩
  · have h' : decide (0 ≤ n) = false := decide_eq_false h
    rw [show isAmt n = false from decide_eq_false (by omega)]
    go_enter Tryd.func45, Tryd.ntmps45
    go_wp2
    go_ret
    exact ⟨rfl, rfl⟩

end Go.Proofs.YtkdmedmlbglgmaaDoor
