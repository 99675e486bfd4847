/- Amounts; a slice of numbers that can be read; a number and an error as two results. -/
import Derived.Test.YtkdmedmlbglgmaaDoorMap2
import Derived.Test.YtkdmedmlbglgmaaDoorErr
import Derived.StillTailTactics
import Derived.Deep.RegionHeld3
import Derived.Laws.AppendOwn
import Derived.Laws.OwnMore
namespace Go.Proofs.YtkdmedmlbglgmaaDoor
open Go.Maps
open Go Go.RowKit
set_option linter.unusedSimpArgs false
set_option linter.unusedVariables false

def isAmt (n : Int) : Bool := decide (0 ≤ n ∧ n ≤ 1000000000000000)
/-- A slice of int64 numbers, as a value: what can be read of it. -/
def SlI (w : World) (v : Value) (xs : List Int) : Prop :=
  ∃ a cap, v = .slice a xs.length cap ∧ xs.length ≤ cap ∧ cap ≤ maxLen ∧ (xs = [] ∨ ∃ b off, a = some ⟨b, off, none⟩ ∧ b < w.heap.size ∧ ∀ i, i < xs.length → w.cell? ⟨b, off + i, none⟩ = some (.int .i64 (xs.getD i 0)))
theorem SlI.below {w w' : World} {v : Value} {xs : List Int} (h : SlI w v xs) (k : Below w.heap.size w w') : SlI w' v xs := by
  obtain ⟨a, cap, h1, h2, h2', h3 | ⟨b, off, h3, h4, h5⟩⟩ := h
  · exact ⟨a, cap, h1, h2, h2', .inl h3⟩
  · exact ⟨a, cap, h1, h2, h2', .inr ⟨b, off, h3, Nat.lt_of_lt_of_le h4 k.size, fun i hi => (k.cell (p := ⟨b, off + i, none⟩) h4).trans (h5 i hi)⟩⟩

/-- A number and an error, as the two results. -/
def resV (p : Nat → Addr) : Except Nat Int → Value
  | .ok n => .tuple #[.int .i64 n, .nilIface]
  | .error k => .tuple #[.int .i64 0, ev p k]

theorem take_snoc {xs : List Int} {m : Nat} (h : m < xs.length) : xs.take (m + 1) = xs.take m ++ [xs.getD m 0] := by
  rw [List.take_succ_eq_append_getElem h]
  simp [List.getD, h]

end Go.Proofs.YtkdmedmlbglgmaaDoor
