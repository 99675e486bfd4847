/- From a row's listed variables to what the walks over words ask: strconv's two errors beside what XOpLaid gives. -/
import Derived.Test.YtchbkceconlbkaaGreatDoorOpLaid
import Derived.Test.YtchbkceconlbkaaGreatDoorOpNum
namespace Go.Proofs.YtchbkceconlbkaaGreatDoor
open Go Go.RowKit
set_option linter.unusedSimpArgs false
set_option linter.unusedVariables false

theorem sent_cell {W : World} {n nm : String} {text : List UInt8} {g : Nat} (hg : Tryz.prog.globalNamed n = some g) (ht : (Tryz.prog.globals[g]?).map (·.type) = some 29) (hnm : nm = "*errors.errorString")
    (h : laidMet Tryz.prog ((n, .iface nm (.ptr (.agg [.lit (.string text)]))) :: []) W) : g < W.heap.size ∧ ∃ t v, W.cell? ⟨g, 0, none⟩ = some (.iface t v) := by
  subst hnm
  obtain ⟨a, s, h1, _⟩ := laid_sentinel h hg ht Tryz.underlying29 errRow Tryz.underlying146 Tryz.underlying148 rfl rfl Tryz.underlying9 (by kernel_rfl) (by kernel_rfl)
  have hc : W.cell? ⟨g, 0, none⟩ = some (.iface 146 (.pointer (some a))) := by simpa using World.var?_cell hg h1 0
  exact ⟨World.block_lt_of_cell? W ⟨g, 0, none⟩ hc, _, _, hc⟩
theorem parW_of_laid {W : World} {l1 l2 : List (String × DataW Unit)} {nm1 nm2 : String} {x1 x2 : List UInt8} (hT : OpW W.heap.size W) (h1 : laidMet Tryz.prog l1 W) (e1 : l1 = ("strconv.ErrSyntax", .iface nm1 (.ptr (.agg [.lit (.string x1)]))) :: [])
    (h2 : laidMet Tryz.prog l2 W) (e2 : l2 = ("strconv.ErrRange", .iface nm2 (.ptr (.agg [.lit (.string x2)]))) :: []) (n1 : nm1 = "*errors.errorString") (n2 : nm2 = "*errors.errorString") : ParW W.heap.size W := by
  subst e1 e2
  obtain ⟨a1, b1⟩ := sent_cell (g := 23) (by kernel_rfl) (by kernel_rfl) n1 h1
  obtain ⟨a2, b2⟩ := sent_cell (g := 24) (by kernel_rfl) (by kernel_rfl) n2 h2
  exact ⟨hT, a1, a2, b1, b2⟩
end Go.Proofs.YtchbkceconlbkaaGreatDoor
