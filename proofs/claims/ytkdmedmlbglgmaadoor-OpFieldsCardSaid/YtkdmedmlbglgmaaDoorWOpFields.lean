/- The walk of pledgelaw25.OpFields: it returns true, and writes nothing that was there. (Written by gen_fields.py.) -/
import Derived.Test.YtkdmedmlbglgmaaDoorWOpF0
import Derived.Test.YtkdmedmlbglgmaaDoorWOpF1
import Derived.Test.YtkdmedmlbglgmaaDoorWOpF2
import Derived.Test.YtkdmedmlbglgmaaDoorWOpF3
import Derived.Test.YtkdmedmlbglgmaaDoorWOpF4
import Derived.Test.YtkdmedmlbglgmaaDoorWOpF5
namespace Go.Proofs.YtkdmedmlbglgmaaDoor
open Go Go.RowKit
set_option linter.unusedSimpArgs false
set_option linter.unusedVariables false

theorem walk_OpFields {p : Nat → Addr} {w : World} (hE : Errs (List.range 21) w.heap.size p w) (hT : OpW w.heap.size w) (kind which n : Int) (l1 : -9223372036854775808 ≤ kind) (u1 : kind ≤ 9223372036854775807) (l2 : -9223372036854775808 ≤ which) (u2 : which ≤ 9223372036854775807) (l3 : -9223372036854775808 ≤ n) (u3 : n ≤ 9223372036854775807) :
    Calls Tryd.prog 5 #[.int .i64 kind, .int .i64 which, .int .i64 n] w fun e w' => e = .returned (.bool true) ∧ Below w.heap.size w w' := by
  have h0 := Int.emod_nonneg which (show (6 : Int) ≠ 0 by decide)
  have h1 := Int.emod_lt_of_pos which (show (0 : Int) < 6 by decide)
  have hjc : which % 6 = 0 ∨ which % 6 = 1 ∨ which % 6 = 2 ∨ which % 6 = 3 ∨ which % 6 = 4 ∨ which % 6 = 5 := by omega
  rcases hjc with h | h | h | h | h | h
  · exact walk_OpFields0 hE hT kind which n l1 u1 l2 u2 l3 u3 h
  · exact walk_OpFields1 hE hT kind which n l1 u1 l2 u2 l3 u3 h
  · exact walk_OpFields2 hE hT kind which n l1 u1 l2 u2 l3 u3 h
  · exact walk_OpFields3 hE hT kind which n l1 u1 l2 u2 l3 u3 h
  · exact walk_OpFields4 hE hT kind which n l1 u1 l2 u2 l3 u3 h
  · exact walk_OpFields5 hE hT kind which n l1 u1 l2 u2 l3 u3 h
end Go.Proofs.YtkdmedmlbglgmaaDoor
