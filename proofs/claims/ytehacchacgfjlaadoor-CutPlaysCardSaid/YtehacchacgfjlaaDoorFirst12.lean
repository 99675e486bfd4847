/- pledgelaw12.first: the chapter's examples. -/
import Derived.Test.YtehacchacgfjlaaDoorLad
namespace Go.Proofs.YtehacchacgfjlaaDoor
open Go Go.RowKit
set_option linter.unusedSimpArgs false
set_option linter.unusedVariables false

set_option maxRecDepth 100000 in
theorem first12_calls {p : Nat → Addr} {ks : List Nat} {C : Nat} {w : World} (hE : Errs ks C p w) (hk : 2 ∈ ks) : Calls Tryd.prog 39 #[] w fun e w' => e = .returned (.bool true) ∧ Below w.heap.size w w' := by
  have HE := Lib.hid hE; clear hE
  have hC := HE.out.size
  go_enter Tryd.func39, Tryd.ntmps39
  go_wp2_with fail
  have h0 := lad_new w.heap.size w
  have HB0 : Below w.heap.size w (w.alloc (Obj.cells #[.map none, .int .i64 0] 64)) := by (repeat (first | exact Below.refl _ _ | assumption | refine Below.drew ?_ | refine below_many ?_ _ | refine Below.alloc ?_ (by first | (simp; done) | (simp; omega) | omega) _ | refine Below.setCell ?_ (by first | (simp; done) | (simp; omega) | omega) _))
  refine (lad_of (HE.out.below (HB0.mono hC)) hk h0 1 0 1 1 0 5).mono ?_
  rintro e w1 ⟨rfl, hb⟩
  rw [show ofN [] 0 1 0 1 1 0 5 = 0 by decide]
  have h1 := h0.below hb
  have HB1 := bbase HB0 hb
  clear h0 HB0 hb
  go_wp2_with fail
  refine (lad_set h1 HB1.size 1 0 7 (by decide)).mono ?_
  rintro e w2 ⟨rfl, h2, hk2⟩
  have HB2 : Below w.heap.size w w2 := HB1.trans (hk2.below HB1.size (fun k hk' hs => by omega))
  clear h1 HB1 hk2
  go_wp2_with fail
  refine (lad_of (HE.out.below (HB2.mono hC)) hk h2 1 0 1 1 0 5).mono ?_
  rintro e w3 ⟨rfl, hb⟩
  rw [show ofN (mput [] (1, 0) 7) 0 1 0 1 1 0 5 = 7 by decide]
  have HB3 := bbase HB2 hb
  clear h2 HB2 hb
  go_wp2_with fail
  go_ret
  exact ⟨rfl, HB3⟩

end Go.Proofs.YtehacchacgfjlaaDoor
