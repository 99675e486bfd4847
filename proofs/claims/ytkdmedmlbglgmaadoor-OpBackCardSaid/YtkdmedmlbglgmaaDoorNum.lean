/- pledgeworld.Number: a number from 0 to below a bound. -/
import Derived.Test.YtkdmedmlbglgmaaDoorProg
import Derived.Test.YtkdmedmlbglgmaaDoorLib
namespace Go.Proofs.YtkdmedmlbglgmaaDoor
open Go Go.RowKit
set_option linter.unusedSimpArgs false
set_option linter.unusedVariables false

theorem tmod_num (n b : Int) (hb : 0 < b) : (n.tmod b < 0 → n.tmod b + b = n % b) ∧ (0 ≤ n.tmod b → n.tmod b = n % b) ∧ - b < n.tmod b ∧ n.tmod b < b := by
  have h := Int.tmod_eq_emod (a := n) (b := b)
  have h1 := Int.emod_nonneg n (show b ≠ 0 by omega)
  have h2 := Int.emod_lt_of_pos n hb
  split at h <;> refine ⟨fun h4 => ?_, fun h4 => ?_, ?_, ?_⟩ <;> omega

theorem ret_i64 {a b : Int} (h : a = b) : Ending.returned (.int .i64 a) = .returned (.int .i64 b) := by rw [h]

theorem number_calls (n b : Int) (hb : 0 < b) (hb2 : b ≤ 4611686018427387904) (w : World) :
    Calls Tryd.prog 20 #[.int .i64 n, .int .i64 b] w fun e w' => e = .returned (.int .i64 (n % b)) ∧ w = w' := by
  obtain ⟨h1, h2, h5, h6⟩ := tmod_num n b hb
  have H1 := Lib.hid h1
  have H2 := Lib.hid h2
  have h3 := Int.emod_nonneg n (show b ≠ 0 by omega)
  have h4 := Int.emod_lt_of_pos n hb
  have hz : (b == 0) = false := by simp; omega
  clear h1 h2
  by_cases hlt : n.tmod b < 0
  · go_enter Tryd.func20, Tryd.ntmps20
    go_wp2
    go_ret
    exact ⟨ret_i64 (H1.out hlt), rfl⟩
  · go_enter Tryd.func20, Tryd.ntmps20
    go_wp2
    go_ret
    exact ⟨ret_i64 (H2.out (by omega)), rfl⟩

end Go.Proofs.YtkdmedmlbglgmaaDoor
