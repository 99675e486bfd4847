/- Chapter 10's examples: first returns true. -/
import Derived.Test.YtfecgcdceegdlaaDoorAsset
namespace Go.Proofs.YtfecgcdceegdlaaDoor
open Go Go.RowKit
set_option linter.unusedSimpArgs false
set_option linter.unusedVariables false

theorem first10_calls (w : World) : Calls Tryd.prog 15 #[] w fun e w' => e = .returned (.bool true) ∧ Below w.heap.size w w' := by
  go_enter Tryd.func15, Tryd.ntmps15
  go_wp2_with fail
  refine (live_calls _ _ _ _ _ _ _).mono ?_
  rintro e w1 ⟨rfl, hb⟩
  rw [show liveB 0 5 = true from rfl]
  go_wp2_with fail
  go_ret
  exact ⟨rfl, hb⟩
end Go.Proofs.YtfecgcdceegdlaaDoor
