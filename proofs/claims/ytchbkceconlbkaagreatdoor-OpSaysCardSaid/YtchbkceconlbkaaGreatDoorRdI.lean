/- A slice of integers that is read: nil, or a row of cells. -/
import Derived.Test.YtchbkceconlbkaaGreatDoorLib
namespace Go.Proofs.YtchbkceconlbkaaGreatDoor
open Go Go.RowKit
set_option linter.unusedSimpArgs false
set_option linter.unusedVariables false

/-- v reads as the numbers xs (kind k): nil and none, or a row. -/
def RdK (k : IntKind) (w : World) (v : Value) (xs : List Int) : Prop :=
  (xs = [] ∧ ∃ a cap, v = .slice a 0 cap ∧ cap ≤ maxLen) ∨
  ∃ g off cap, v = .slice (some ⟨g, off, none⟩) xs.length cap ∧ xs.length ≤ cap ∧ cap ≤ maxLen ∧ g < w.heap.size ∧ ∀ i, i < xs.length → w.cell? ⟨g, off + i, none⟩ = some (.int k (xs.getD i 0))
theorem RdK.below {k : IntKind} {w w' : World} {v : Value} {xs : List Int} (h : RdK k w v xs) (hb : Below w.heap.size w w') : RdK k w' v xs := by
  rcases h with h | ⟨g, off, cap, rfl, h1, h2, h3, h4⟩
  · exact .inl h
  · exact .inr ⟨g, off, cap, rfl, h1, h2, Nat.lt_of_lt_of_le h3 hb.size, fun i hi => (hb.cell (p := ⟨g, off + i, none⟩) h3).trans (h4 i hi)⟩
theorem RdK.keep {k : IntKind} {S : Nat → Prop} {w w' : World} {v : Value} {xs : List Int} (h : RdK k w v xs) (hb : Keep S w w') (hs : ∀ g, v.ownBlock = some g → ¬ S g) : RdK k w' v xs := by
  rcases h with h | ⟨g, off, cap, rfl, h1, h2, h3, h4⟩
  · exact .inl h
  · exact .inr ⟨g, off, cap, rfl, h1, h2, Nat.lt_of_lt_of_le h3 hb.size, fun i hi => (hb.cell (x := ⟨g, off + i, none⟩) h3 (hs g rfl)).trans (h4 i hi)⟩
theorem RdK.len {k : IntKind} {w : World} {v : Value} {xs : List Int} (h : RdK k w v xs) : ∃ a cap, v = .slice a xs.length cap ∧ xs.length ≤ cap ∧ cap ≤ maxLen := by
  rcases h with ⟨rfl, a, cap, rfl, h1⟩ | ⟨g, off, cap, rfl, h1, h2, _⟩
  · exact ⟨a, cap, rfl, Nat.zero_le _, h1⟩
  · exact ⟨_, cap, rfl, h1, h2⟩
theorem IsRow.rdK {k : IntKind} {w : World} {a : Option Addr} {len cap : Nat} {zs : List Int} (h : IsRow k w a len cap zs) : RdK k w (.slice a len cap) (zs.take len) := by
  by_cases hp : 0 < len
  · obtain ⟨b, off, rfl, h1, h2, h3, h4, h5, _⟩ := h.open hp
    have hl : (zs.take len).length = len := by rw [List.length_take]; omega
    refine .inr ⟨b, off, cap, by rw [hl], by omega, h4, h1, fun i hi => ?_⟩
    rw [hl] at hi
    rw [h5 i (by omega)]
    simp [List.getD, List.getElem?_take, hi]
  · obtain rfl : len = 0 := by omega
    rcases h with ⟨rfl, _, rfl, rfl⟩ | ⟨x, rfl, h1, h2, h3, h4, h5⟩
    · exact .inl ⟨rfl, none, 0, rfl, by unfold maxLen; omega⟩
    · exact .inl ⟨by simp, _, _, rfl, h2⟩
theorem rdK_one (k : IntKind) (w : World) (q : Int) (E : TypeId) : RdK k (w.alloc (.cells #[.int k q] E)) (.slice (some ⟨w.heap.size, 0, none⟩) 1 1) [q] := by
  refine .inr ⟨w.heap.size, 0, 1, rfl, Nat.le_refl _, by decide, by simp, fun i hi => ?_⟩
  obtain rfl : i = 0 := by simpa using hi
  simp only [World.cell?, World.alloc, Array.getElem?_push, if_true, Nat.zero_add]
  rfl
theorem rdK_nil (k : IntKind) (w : World) : RdK k w (.slice none 0 0) [] := .inl ⟨rfl, none, 0, rfl, by unfold maxLen; omega⟩
end Go.Proofs.YtchbkceconlbkaaGreatDoor
