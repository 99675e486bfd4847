/- The walk of pledgelaw25.OpWords: it returns true, and writes nothing that was there. (Written by gen_words.py.) -/
import Derived.Test.YtkdmedmlbglgmaaDoorOpParse
import Derived.Test.YtkdmedmlbglgmaaDoorOpFirst
import Derived.Test.YtkdmedmlbglgmaaDoorWordLaw
import Derived.Test.YtkdmedmlbglgmaaDoorNum
import Derived.Deep.DeepCutAuto
namespace Go.Proofs.YtkdmedmlbglgmaaDoor
open Go Go.RowKit
set_option linter.unusedSimpArgs false
set_option linter.unusedVariables false

theorem srow_new (w : World) (cs : Array Value) (T : TypeId) (ws : List ByteArray) (h : cs.toList = ws.map Value.string) : SRow (w.alloc (.cells cs T)) (some ⟨w.heap.size, 0, none⟩) ws := by
  refine .inr ⟨w.heap.size, 0, rfl, by simp, fun j x hj => ?_⟩
  simp only [World.cell?, World.alloc, Array.getElem?_push, if_true, Nat.zero_add]
  have : cs.toList[j]? = some (.string x) := by rw [h, List.getElem?_map, hj]; rfl
  simpa using this
/-- A table of rows of words. -/
def Tab (w : World) (tb m : Nat) (L : Nat → List ByteArray) : Prop := tb < w.heap.size ∧ ∀ i, i < m → ∃ a, w.cell? ⟨tb, i, none⟩ = some (.slice a (L i).length (L i).length) ∧ SRow w a (L i)
theorem Tab.below {w w' : World} {tb m : Nat} {L : Nat → List ByteArray} (h : Tab w tb m L) (k : Below w.heap.size w w') : Tab w' tb m L :=
  ⟨Nat.lt_of_lt_of_le h.1 k.size, fun i hi => by
    obtain ⟨a, h1, h2⟩ := h.2 i hi
    exact ⟨a, (k.cell (p := ⟨tb, i, none⟩) h.1).trans h1, h2.below k⟩⟩
theorem tab_new (w : World) (cs : Array Value) (T : TypeId) (m : Nat) (L : Nat → List ByteArray) (A : Nat → Option Addr) (hc : ∀ i, i < m → cs[i]? = some (.slice (A i) (L i).length (L i).length)) (hR : ∀ i, i < m → SRow w (A i) (L i)) : Tab (w.alloc (.cells cs T)) w.heap.size m L := by
  refine ⟨by simp, fun i hi => ⟨A i, ?_, (hR i hi).below ((Below.refl _ _).alloc (Nat.le_refl _) _)⟩⟩
  simp only [World.cell?, World.alloc, Array.getElem?_push, if_true]
  simpa using hc i hi
theorem size_alloc (w : World) (o : Obj) : (w.alloc o).heap.size = w.heap.size + 1 := by simp
theorem tab_word (w : World) : Tab ((((((w.alloc (.cells #[.string ⟨#[53]⟩] 9)).alloc (.cells #[.string ⟨#[53]⟩, .string ⟨#[100, 101, 112, 111, 115, 105, 116, 115]⟩, .string ⟨#[49]⟩, .string ⟨#[50]⟩, .string ⟨#[51]⟩] 9)).alloc (.cells #[.string ⟨#[53]⟩, .string ⟨#[100, 101, 112, 111, 115, 105, 116]⟩, .string ⟨#[49]⟩, .string ⟨#[50]⟩] 9)).alloc (.cells #[.string ⟨#[120]⟩, .string ⟨#[116, 105, 99, 107]⟩, .string ⟨#[49]⟩, .string ⟨#[50]⟩] 9)).alloc (.cells #[.string ⟨#[53]⟩, .string ⟨#[]⟩] 9)).alloc (.cells #[.slice none 0 0, .slice (some ⟨w.heap.size, 0, none⟩) 1 1, .slice (some ⟨w.heap.size + 1, 0, none⟩) 5 5, .slice (some ⟨w.heap.size + 2, 0, none⟩) 4 4, .slice (some ⟨w.heap.size + 3, 0, none⟩) 4 4, .slice (some ⟨w.heap.size + 4, 0, none⟩) 2 2] 59)) (w.heap.size + 5) 6 wordL := by
  have s1 : SRow (w.alloc (.cells #[.string ⟨#[53]⟩] 9)) (some ⟨w.heap.size, 0, none⟩) (wordL 1) := by
    have h := srow_new w #[.string ⟨#[53]⟩] 9 (wordL 1) rfl
    simpa only [size_alloc, Nat.add_assoc, Nat.reduceAdd] using h
  have s1 := s1.below ((Below.refl _ _).alloc (Nat.le_refl _) (.cells #[.string ⟨#[53]⟩, .string ⟨#[100, 101, 112, 111, 115, 105, 116, 115]⟩, .string ⟨#[49]⟩, .string ⟨#[50]⟩, .string ⟨#[51]⟩] 9))
  have s1 := s1.below ((Below.refl _ _).alloc (Nat.le_refl _) (.cells #[.string ⟨#[53]⟩, .string ⟨#[100, 101, 112, 111, 115, 105, 116]⟩, .string ⟨#[49]⟩, .string ⟨#[50]⟩] 9))
  have s1 := s1.below ((Below.refl _ _).alloc (Nat.le_refl _) (.cells #[.string ⟨#[120]⟩, .string ⟨#[116, 105, 99, 107]⟩, .string ⟨#[49]⟩, .string ⟨#[50]⟩] 9))
  have s1 := s1.below ((Below.refl _ _).alloc (Nat.le_refl _) (.cells #[.string ⟨#[53]⟩, .string ⟨#[]⟩] 9))
  have s2 : SRow ((w.alloc (.cells #[.string ⟨#[53]⟩] 9)).alloc (.cells #[.string ⟨#[53]⟩, .string ⟨#[100, 101, 112, 111, 115, 105, 116, 115]⟩, .string ⟨#[49]⟩, .string ⟨#[50]⟩, .string ⟨#[51]⟩] 9)) (some ⟨w.heap.size + 1, 0, none⟩) (wordL 2) := by
    have h := srow_new (w.alloc (.cells #[.string ⟨#[53]⟩] 9)) #[.string ⟨#[53]⟩, .string ⟨#[100, 101, 112, 111, 115, 105, 116, 115]⟩, .string ⟨#[49]⟩, .string ⟨#[50]⟩, .string ⟨#[51]⟩] 9 (wordL 2) rfl
    simpa only [size_alloc, Nat.add_assoc, Nat.reduceAdd] using h
  have s2 := s2.below ((Below.refl _ _).alloc (Nat.le_refl _) (.cells #[.string ⟨#[53]⟩, .string ⟨#[100, 101, 112, 111, 115, 105, 116]⟩, .string ⟨#[49]⟩, .string ⟨#[50]⟩] 9))
  have s2 := s2.below ((Below.refl _ _).alloc (Nat.le_refl _) (.cells #[.string ⟨#[120]⟩, .string ⟨#[116, 105, 99, 107]⟩, .string ⟨#[49]⟩, .string ⟨#[50]⟩] 9))
  have s2 := s2.below ((Below.refl _ _).alloc (Nat.le_refl _) (.cells #[.string ⟨#[53]⟩, .string ⟨#[]⟩] 9))
  have s3 : SRow (((w.alloc (.cells #[.string ⟨#[53]⟩] 9)).alloc (.cells #[.string ⟨#[53]⟩, .string ⟨#[100, 101, 112, 111, 115, 105, 116, 115]⟩, .string ⟨#[49]⟩, .string ⟨#[50]⟩, .string ⟨#[51]⟩] 9)).alloc (.cells #[.string ⟨#[53]⟩, .string ⟨#[100, 101, 112, 111, 115, 105, 116]⟩, .string ⟨#[49]⟩, .string ⟨#[50]⟩] 9)) (some ⟨w.heap.size + 2, 0, none⟩) (wordL 3) := by
    have h := srow_new ((w.alloc (.cells #[.string ⟨#[53]⟩] 9)).alloc (.cells #[.string ⟨#[53]⟩, .string ⟨#[100, 101, 112, 111, 115, 105, 116, 115]⟩, .string ⟨#[49]⟩, .string ⟨#[50]⟩, .string ⟨#[51]⟩] 9)) #[.string ⟨#[53]⟩, .string ⟨#[100, 101, 112, 111, 115, 105, 116]⟩, .string ⟨#[49]⟩, .string ⟨#[50]⟩] 9 (wordL 3) rfl
    simpa only [size_alloc, Nat.add_assoc, Nat.reduceAdd] using h
  have s3 := s3.below ((Below.refl _ _).alloc (Nat.le_refl _) (.cells #[.string ⟨#[120]⟩, .string ⟨#[116, 105, 99, 107]⟩, .string ⟨#[49]⟩, .string ⟨#[50]⟩] 9))
  have s3 := s3.below ((Below.refl _ _).alloc (Nat.le_refl _) (.cells #[.string ⟨#[53]⟩, .string ⟨#[]⟩] 9))
  have s4 : SRow ((((w.alloc (.cells #[.string ⟨#[53]⟩] 9)).alloc (.cells #[.string ⟨#[53]⟩, .string ⟨#[100, 101, 112, 111, 115, 105, 116, 115]⟩, .string ⟨#[49]⟩, .string ⟨#[50]⟩, .string ⟨#[51]⟩] 9)).alloc (.cells #[.string ⟨#[53]⟩, .string ⟨#[100, 101, 112, 111, 115, 105, 116]⟩, .string ⟨#[49]⟩, .string ⟨#[50]⟩] 9)).alloc (.cells #[.string ⟨#[120]⟩, .string ⟨#[116, 105, 99, 107]⟩, .string ⟨#[49]⟩, .string ⟨#[50]⟩] 9)) (some ⟨w.heap.size + 3, 0, none⟩) (wordL 4) := by
    have h := srow_new (((w.alloc (.cells #[.string ⟨#[53]⟩] 9)).alloc (.cells #[.string ⟨#[53]⟩, .string ⟨#[100, 101, 112, 111, 115, 105, 116, 115]⟩, .string ⟨#[49]⟩, .string ⟨#[50]⟩, .string ⟨#[51]⟩] 9)).alloc (.cells #[.string ⟨#[53]⟩, .string ⟨#[100, 101, 112, 111, 115, 105, 116]⟩, .string ⟨#[49]⟩, .string ⟨#[50]⟩] 9)) #[.string ⟨#[120]⟩, .string ⟨#[116, 105, 99, 107]⟩, .string ⟨#[49]⟩, .string ⟨#[50]⟩] 9 (wordL 4) rfl
    simpa only [size_alloc, Nat.add_assoc, Nat.reduceAdd] using h
  have s4 := s4.below ((Below.refl _ _).alloc (Nat.le_refl _) (.cells #[.string ⟨#[53]⟩, .string ⟨#[]⟩] 9))
  have s5 : SRow (((((w.alloc (.cells #[.string ⟨#[53]⟩] 9)).alloc (.cells #[.string ⟨#[53]⟩, .string ⟨#[100, 101, 112, 111, 115, 105, 116, 115]⟩, .string ⟨#[49]⟩, .string ⟨#[50]⟩, .string ⟨#[51]⟩] 9)).alloc (.cells #[.string ⟨#[53]⟩, .string ⟨#[100, 101, 112, 111, 115, 105, 116]⟩, .string ⟨#[49]⟩, .string ⟨#[50]⟩] 9)).alloc (.cells #[.string ⟨#[120]⟩, .string ⟨#[116, 105, 99, 107]⟩, .string ⟨#[49]⟩, .string ⟨#[50]⟩] 9)).alloc (.cells #[.string ⟨#[53]⟩, .string ⟨#[]⟩] 9)) (some ⟨w.heap.size + 4, 0, none⟩) (wordL 5) := by
    have h := srow_new ((((w.alloc (.cells #[.string ⟨#[53]⟩] 9)).alloc (.cells #[.string ⟨#[53]⟩, .string ⟨#[100, 101, 112, 111, 115, 105, 116, 115]⟩, .string ⟨#[49]⟩, .string ⟨#[50]⟩, .string ⟨#[51]⟩] 9)).alloc (.cells #[.string ⟨#[53]⟩, .string ⟨#[100, 101, 112, 111, 115, 105, 116]⟩, .string ⟨#[49]⟩, .string ⟨#[50]⟩] 9)).alloc (.cells #[.string ⟨#[120]⟩, .string ⟨#[116, 105, 99, 107]⟩, .string ⟨#[49]⟩, .string ⟨#[50]⟩] 9)) #[.string ⟨#[53]⟩, .string ⟨#[]⟩] 9 (wordL 5) rfl
    simpa only [size_alloc, Nat.add_assoc, Nat.reduceAdd] using h
  have h := tab_new (((((w.alloc (.cells #[.string ⟨#[53]⟩] 9)).alloc (.cells #[.string ⟨#[53]⟩, .string ⟨#[100, 101, 112, 111, 115, 105, 116, 115]⟩, .string ⟨#[49]⟩, .string ⟨#[50]⟩, .string ⟨#[51]⟩] 9)).alloc (.cells #[.string ⟨#[53]⟩, .string ⟨#[100, 101, 112, 111, 115, 105, 116]⟩, .string ⟨#[49]⟩, .string ⟨#[50]⟩] 9)).alloc (.cells #[.string ⟨#[120]⟩, .string ⟨#[116, 105, 99, 107]⟩, .string ⟨#[49]⟩, .string ⟨#[50]⟩] 9)).alloc (.cells #[.string ⟨#[53]⟩, .string ⟨#[]⟩] 9)) #[.slice none 0 0, .slice (some ⟨w.heap.size, 0, none⟩) 1 1, .slice (some ⟨w.heap.size + 1, 0, none⟩) 5 5, .slice (some ⟨w.heap.size + 2, 0, none⟩) 4 4, .slice (some ⟨w.heap.size + 3, 0, none⟩) 4 4, .slice (some ⟨w.heap.size + 4, 0, none⟩) 2 2] 59 6 wordL (fun i => match i with | 0 => none | 1 => some ⟨w.heap.size, 0, none⟩ | 2 => some ⟨w.heap.size + 1, 0, none⟩ | 3 => some ⟨w.heap.size + 2, 0, none⟩ | 4 => some ⟨w.heap.size + 3, 0, none⟩ | _ => some ⟨w.heap.size + 4, 0, none⟩)
    (fun i hi => by
      have : i = 0 ∨ i = 1 ∨ i = 2 ∨ i = 3 ∨ i = 4 ∨ i = 5 := by omega
      rcases this with rfl | rfl | rfl | rfl | rfl | rfl <;> rfl)
    (fun i hi => by
      have : i = 0 ∨ i = 1 ∨ i = 2 ∨ i = 3 ∨ i = 4 ∨ i = 5 := by omega
      rcases this with rfl | rfl | rfl | rfl | rfl | rfl
      · exact .inl rfl
      · exact s1
      · exact s2
      · exact s3
      · exact s4
      · exact s5
      )
  simpa only [size_alloc, Nat.add_assoc, Nat.reduceAdd] using h
theorem tab_number (w : World) : Tab ((((((w.alloc (.cells #[.string ⟨#[120]⟩, .string ⟨#[116, 105, 99, 107]⟩, .string ⟨#[49]⟩] 9)).alloc (.cells #[.string ⟨#[53]⟩, .string ⟨#[110, 101, 101, 100]⟩, .string ⟨#[49]⟩, .string ⟨#[48, 49]⟩] 9)).alloc (.cells #[.string ⟨#[48, 53]⟩, .string ⟨#[116, 105, 99, 107]⟩, .string ⟨#[49]⟩] 9)).alloc (.cells #[.string ⟨#[53]⟩, .string ⟨#[102, 117, 110, 100]⟩, .string ⟨#[]⟩, .string ⟨#[49]⟩] 9)).alloc (.cells #[.string ⟨#[53]⟩, .string ⟨#[116, 105, 99, 107]⟩, .string ⟨#[49, 50, 51, 52, 53, 54, 55, 56, 57, 48, 49, 50, 51, 52, 53, 54, 55, 56, 57]⟩] 9)).alloc (.cells #[.slice (some ⟨w.heap.size, 0, none⟩) 3 3, .slice (some ⟨w.heap.size + 1, 0, none⟩) 4 4, .slice (some ⟨w.heap.size + 2, 0, none⟩) 3 3, .slice (some ⟨w.heap.size + 3, 0, none⟩) 4 4, .slice (some ⟨w.heap.size + 4, 0, none⟩) 3 3] 59)) (w.heap.size + 5) 5 numberL := by
  have s0 : SRow (w.alloc (.cells #[.string ⟨#[120]⟩, .string ⟨#[116, 105, 99, 107]⟩, .string ⟨#[49]⟩] 9)) (some ⟨w.heap.size, 0, none⟩) (numberL 0) := by
    have h := srow_new w #[.string ⟨#[120]⟩, .string ⟨#[116, 105, 99, 107]⟩, .string ⟨#[49]⟩] 9 (numberL 0) rfl
    simpa only [size_alloc, Nat.add_assoc, Nat.reduceAdd] using h
  have s0 := s0.below ((Below.refl _ _).alloc (Nat.le_refl _) (.cells #[.string ⟨#[53]⟩, .string ⟨#[110, 101, 101, 100]⟩, .string ⟨#[49]⟩, .string ⟨#[48, 49]⟩] 9))
  have s0 := s0.below ((Below.refl _ _).alloc (Nat.le_refl _) (.cells #[.string ⟨#[48, 53]⟩, .string ⟨#[116, 105, 99, 107]⟩, .string ⟨#[49]⟩] 9))
  have s0 := s0.below ((Below.refl _ _).alloc (Nat.le_refl _) (.cells #[.string ⟨#[53]⟩, .string ⟨#[102, 117, 110, 100]⟩, .string ⟨#[]⟩, .string ⟨#[49]⟩] 9))
  have s0 := s0.below ((Below.refl _ _).alloc (Nat.le_refl _) (.cells #[.string ⟨#[53]⟩, .string ⟨#[116, 105, 99, 107]⟩, .string ⟨#[49, 50, 51, 52, 53, 54, 55, 56, 57, 48, 49, 50, 51, 52, 53, 54, 55, 56, 57]⟩] 9))
  have s1 : SRow ((w.alloc (.cells #[.string ⟨#[120]⟩, .string ⟨#[116, 105, 99, 107]⟩, .string ⟨#[49]⟩] 9)).alloc (.cells #[.string ⟨#[53]⟩, .string ⟨#[110, 101, 101, 100]⟩, .string ⟨#[49]⟩, .string ⟨#[48, 49]⟩] 9)) (some ⟨w.heap.size + 1, 0, none⟩) (numberL 1) := by
    have h := srow_new (w.alloc (.cells #[.string ⟨#[120]⟩, .string ⟨#[116, 105, 99, 107]⟩, .string ⟨#[49]⟩] 9)) #[.string ⟨#[53]⟩, .string ⟨#[110, 101, 101, 100]⟩, .string ⟨#[49]⟩, .string ⟨#[48, 49]⟩] 9 (numberL 1) rfl
    simpa only [size_alloc, Nat.add_assoc, Nat.reduceAdd] using h
  have s1 := s1.below ((Below.refl _ _).alloc (Nat.le_refl _) (.cells #[.string ⟨#[48, 53]⟩, .string ⟨#[116, 105, 99, 107]⟩, .string ⟨#[49]⟩] 9))
  have s1 := s1.below ((Below.refl _ _).alloc (Nat.le_refl _) (.cells #[.string ⟨#[53]⟩, .string ⟨#[102, 117, 110, 100]⟩, .string ⟨#[]⟩, .string ⟨#[49]⟩] 9))
  have s1 := s1.below ((Below.refl _ _).alloc (Nat.le_refl _) (.cells #[.string ⟨#[53]⟩, .string ⟨#[116, 105, 99, 107]⟩, .string ⟨#[49, 50, 51, 52, 53, 54, 55, 56, 57, 48, 49, 50, 51, 52, 53, 54, 55, 56, 57]⟩] 9))
  have s2 : SRow (((w.alloc (.cells #[.string ⟨#[120]⟩, .string ⟨#[116, 105, 99, 107]⟩, .string ⟨#[49]⟩] 9)).alloc (.cells #[.string ⟨#[53]⟩, .string ⟨#[110, 101, 101, 100]⟩, .string ⟨#[49]⟩, .string ⟨#[48, 49]⟩] 9)).alloc (.cells #[.string ⟨#[48, 53]⟩, .string ⟨#[116, 105, 99, 107]⟩, .string ⟨#[49]⟩] 9)) (some ⟨w.heap.size + 2, 0, none⟩) (numberL 2) := by
    have h := srow_new ((w.alloc (.cells #[.string ⟨#[120]⟩, .string ⟨#[116, 105, 99, 107]⟩, .string ⟨#[49]⟩] 9)).alloc (.cells #[.string ⟨#[53]⟩, .string ⟨#[110, 101, 101, 100]⟩, .string ⟨#[49]⟩, .string ⟨#[48, 49]⟩] 9)) #[.string ⟨#[48, 53]⟩, .string ⟨#[116, 105, 99, 107]⟩, .string ⟨#[49]⟩] 9 (numberL 2) rfl
    simpa only [size_alloc, Nat.add_assoc, Nat.reduceAdd] using h
  have s2 := s2.below ((Below.refl _ _).alloc (Nat.le_refl _) (.cells #[.string ⟨#[53]⟩, .string ⟨#[102, 117, 110, 100]⟩, .string ⟨#[]⟩, .string ⟨#[49]⟩] 9))
  have s2 := s2.below ((Below.refl _ _).alloc (Nat.le_refl _) (.cells #[.string ⟨#[53]⟩, .string ⟨#[116, 105, 99, 107]⟩, .string ⟨#[49, 50, 51, 52, 53, 54, 55, 56, 57, 48, 49, 50, 51, 52, 53, 54, 55, 56, 57]⟩] 9))
  have s3 : SRow ((((w.alloc (.cells #[.string ⟨#[120]⟩, .string ⟨#[116, 105, 99, 107]⟩, .string ⟨#[49]⟩] 9)).alloc (.cells #[.string ⟨#[53]⟩, .string ⟨#[110, 101, 101, 100]⟩, .string ⟨#[49]⟩, .string ⟨#[48, 49]⟩] 9)).alloc (.cells #[.string ⟨#[48, 53]⟩, .string ⟨#[116, 105, 99, 107]⟩, .string ⟨#[49]⟩] 9)).alloc (.cells #[.string ⟨#[53]⟩, .string ⟨#[102, 117, 110, 100]⟩, .string ⟨#[]⟩, .string ⟨#[49]⟩] 9)) (some ⟨w.heap.size + 3, 0, none⟩) (numberL 3) := by
    have h := srow_new (((w.alloc (.cells #[.string ⟨#[120]⟩, .string ⟨#[116, 105, 99, 107]⟩, .string ⟨#[49]⟩] 9)).alloc (.cells #[.string ⟨#[53]⟩, .string ⟨#[110, 101, 101, 100]⟩, .string ⟨#[49]⟩, .string ⟨#[48, 49]⟩] 9)).alloc (.cells #[.string ⟨#[48, 53]⟩, .string ⟨#[116, 105, 99, 107]⟩, .string ⟨#[49]⟩] 9)) #[.string ⟨#[53]⟩, .string ⟨#[102, 117, 110, 100]⟩, .string ⟨#[]⟩, .string ⟨#[49]⟩] 9 (numberL 3) rfl
    simpa only [size_alloc, Nat.add_assoc, Nat.reduceAdd] using h
  have s3 := s3.below ((Below.refl _ _).alloc (Nat.le_refl _) (.cells #[.string ⟨#[53]⟩, .string ⟨#[116, 105, 99, 107]⟩, .string ⟨#[49, 50, 51, 52, 53, 54, 55, 56, 57, 48, 49, 50, 51, 52, 53, 54, 55, 56, 57]⟩] 9))
  have s4 : SRow (((((w.alloc (.cells #[.string ⟨#[120]⟩, .string ⟨#[116, 105, 99, 107]⟩, .string ⟨#[49]⟩] 9)).alloc (.cells #[.string ⟨#[53]⟩, .string ⟨#[110, 101, 101, 100]⟩, .string ⟨#[49]⟩, .string ⟨#[48, 49]⟩] 9)).alloc (.cells #[.string ⟨#[48, 53]⟩, .string ⟨#[116, 105, 99, 107]⟩, .string ⟨#[49]⟩] 9)).alloc (.cells #[.string ⟨#[53]⟩, .string ⟨#[102, 117, 110, 100]⟩, .string ⟨#[]⟩, .string ⟨#[49]⟩] 9)).alloc (.cells #[.string ⟨#[53]⟩, .string ⟨#[116, 105, 99, 107]⟩, .string ⟨#[49, 50, 51, 52, 53, 54, 55, 56, 57, 48, 49, 50, 51, 52, 53, 54, 55, 56, 57]⟩] 9)) (some ⟨w.heap.size + 4, 0, none⟩) (numberL 4) := by
    have h := srow_new ((((w.alloc (.cells #[.string ⟨#[120]⟩, .string ⟨#[116, 105, 99, 107]⟩, .string ⟨#[49]⟩] 9)).alloc (.cells #[.string ⟨#[53]⟩, .string ⟨#[110, 101, 101, 100]⟩, .string ⟨#[49]⟩, .string ⟨#[48, 49]⟩] 9)).alloc (.cells #[.string ⟨#[48, 53]⟩, .string ⟨#[116, 105, 99, 107]⟩, .string ⟨#[49]⟩] 9)).alloc (.cells #[.string ⟨#[53]⟩, .string ⟨#[102, 117, 110, 100]⟩, .string ⟨#[]⟩, .string ⟨#[49]⟩] 9)) #[.string ⟨#[53]⟩, .string ⟨#[116, 105, 99, 107]⟩, .string ⟨#[49, 50, 51, 52, 53, 54, 55, 56, 57, 48, 49, 50, 51, 52, 53, 54, 55, 56, 57]⟩] 9 (numberL 4) rfl
    simpa only [size_alloc, Nat.add_assoc, Nat.reduceAdd] using h
  have h := tab_new (((((w.alloc (.cells #[.string ⟨#[120]⟩, .string ⟨#[116, 105, 99, 107]⟩, .string ⟨#[49]⟩] 9)).alloc (.cells #[.string ⟨#[53]⟩, .string ⟨#[110, 101, 101, 100]⟩, .string ⟨#[49]⟩, .string ⟨#[48, 49]⟩] 9)).alloc (.cells #[.string ⟨#[48, 53]⟩, .string ⟨#[116, 105, 99, 107]⟩, .string ⟨#[49]⟩] 9)).alloc (.cells #[.string ⟨#[53]⟩, .string ⟨#[102, 117, 110, 100]⟩, .string ⟨#[]⟩, .string ⟨#[49]⟩] 9)).alloc (.cells #[.string ⟨#[53]⟩, .string ⟨#[116, 105, 99, 107]⟩, .string ⟨#[49, 50, 51, 52, 53, 54, 55, 56, 57, 48, 49, 50, 51, 52, 53, 54, 55, 56, 57]⟩] 9)) #[.slice (some ⟨w.heap.size, 0, none⟩) 3 3, .slice (some ⟨w.heap.size + 1, 0, none⟩) 4 4, .slice (some ⟨w.heap.size + 2, 0, none⟩) 3 3, .slice (some ⟨w.heap.size + 3, 0, none⟩) 4 4, .slice (some ⟨w.heap.size + 4, 0, none⟩) 3 3] 59 5 numberL (fun i => match i with | 0 => some ⟨w.heap.size, 0, none⟩ | 1 => some ⟨w.heap.size + 1, 0, none⟩ | 2 => some ⟨w.heap.size + 2, 0, none⟩ | 3 => some ⟨w.heap.size + 3, 0, none⟩ | _ => some ⟨w.heap.size + 4, 0, none⟩)
    (fun i hi => by
      have : i = 0 ∨ i = 1 ∨ i = 2 ∨ i = 3 ∨ i = 4 := by omega
      rcases this with rfl | rfl | rfl | rfl | rfl <;> rfl)
    (fun i hi => by
      have : i = 0 ∨ i = 1 ∨ i = 2 ∨ i = 3 ∨ i = 4 := by omega
      rcases this with rfl | rfl | rfl | rfl | rfl
      · exact s0
      · exact s1
      · exact s2
      · exact s3
      · exact s4
      )
  simpa only [size_alloc, Nat.add_assoc, Nat.reduceAdd] using h
theorem tab_rang (w : World) : Tab (((((w.alloc (.cells #[.string ⟨#[48]⟩, .string ⟨#[116, 105, 99, 107]⟩, .string ⟨#[49]⟩] 9)).alloc (.cells #[.string ⟨#[53]⟩, .string ⟨#[110, 101, 101, 100]⟩, .string ⟨#[49, 48, 52, 56, 53, 55, 55]⟩, .string ⟨#[49]⟩] 9)).alloc (.cells #[.string ⟨#[53]⟩, .string ⟨#[116, 105, 99, 107]⟩, .string ⟨#[49, 48, 48, 48, 48, 48, 48, 48, 48, 48, 48, 48, 48, 48, 48, 49]⟩] 9)).alloc (.cells #[.string ⟨#[49, 48, 57, 57, 53, 49, 49, 54, 50, 55, 55, 55, 55]⟩, .string ⟨#[116, 105, 99, 107]⟩, .string ⟨#[49]⟩] 9)).alloc (.cells #[.slice (some ⟨w.heap.size, 0, none⟩) 3 3, .slice (some ⟨w.heap.size + 1, 0, none⟩) 4 4, .slice (some ⟨w.heap.size + 2, 0, none⟩) 3 3, .slice (some ⟨w.heap.size + 3, 0, none⟩) 3 3] 59)) (w.heap.size + 4) 4 rangL := by
  have s0 : SRow (w.alloc (.cells #[.string ⟨#[48]⟩, .string ⟨#[116, 105, 99, 107]⟩, .string ⟨#[49]⟩] 9)) (some ⟨w.heap.size, 0, none⟩) (rangL 0) := by
    have h := srow_new w #[.string ⟨#[48]⟩, .string ⟨#[116, 105, 99, 107]⟩, .string ⟨#[49]⟩] 9 (rangL 0) rfl
    simpa only [size_alloc, Nat.add_assoc, Nat.reduceAdd] using h
  have s0 := s0.below ((Below.refl _ _).alloc (Nat.le_refl _) (.cells #[.string ⟨#[53]⟩, .string ⟨#[110, 101, 101, 100]⟩, .string ⟨#[49, 48, 52, 56, 53, 55, 55]⟩, .string ⟨#[49]⟩] 9))
  have s0 := s0.below ((Below.refl _ _).alloc (Nat.le_refl _) (.cells #[.string ⟨#[53]⟩, .string ⟨#[116, 105, 99, 107]⟩, .string ⟨#[49, 48, 48, 48, 48, 48, 48, 48, 48, 48, 48, 48, 48, 48, 48, 49]⟩] 9))
  have s0 := s0.below ((Below.refl _ _).alloc (Nat.le_refl _) (.cells #[.string ⟨#[49, 48, 57, 57, 53, 49, 49, 54, 50, 55, 55, 55, 55]⟩, .string ⟨#[116, 105, 99, 107]⟩, .string ⟨#[49]⟩] 9))
  have s1 : SRow ((w.alloc (.cells #[.string ⟨#[48]⟩, .string ⟨#[116, 105, 99, 107]⟩, .string ⟨#[49]⟩] 9)).alloc (.cells #[.string ⟨#[53]⟩, .string ⟨#[110, 101, 101, 100]⟩, .string ⟨#[49, 48, 52, 56, 53, 55, 55]⟩, .string ⟨#[49]⟩] 9)) (some ⟨w.heap.size + 1, 0, none⟩) (rangL 1) := by
    have h := srow_new (w.alloc (.cells #[.string ⟨#[48]⟩, .string ⟨#[116, 105, 99, 107]⟩, .string ⟨#[49]⟩] 9)) #[.string ⟨#[53]⟩, .string ⟨#[110, 101, 101, 100]⟩, .string ⟨#[49, 48, 52, 56, 53, 55, 55]⟩, .string ⟨#[49]⟩] 9 (rangL 1) rfl
    simpa only [size_alloc, Nat.add_assoc, Nat.reduceAdd] using h
  have s1 := s1.below ((Below.refl _ _).alloc (Nat.le_refl _) (.cells #[.string ⟨#[53]⟩, .string ⟨#[116, 105, 99, 107]⟩, .string ⟨#[49, 48, 48, 48, 48, 48, 48, 48, 48, 48, 48, 48, 48, 48, 48, 49]⟩] 9))
  have s1 := s1.below ((Below.refl _ _).alloc (Nat.le_refl _) (.cells #[.string ⟨#[49, 48, 57, 57, 53, 49, 49, 54, 50, 55, 55, 55, 55]⟩, .string ⟨#[116, 105, 99, 107]⟩, .string ⟨#[49]⟩] 9))
  have s2 : SRow (((w.alloc (.cells #[.string ⟨#[48]⟩, .string ⟨#[116, 105, 99, 107]⟩, .string ⟨#[49]⟩] 9)).alloc (.cells #[.string ⟨#[53]⟩, .string ⟨#[110, 101, 101, 100]⟩, .string ⟨#[49, 48, 52, 56, 53, 55, 55]⟩, .string ⟨#[49]⟩] 9)).alloc (.cells #[.string ⟨#[53]⟩, .string ⟨#[116, 105, 99, 107]⟩, .string ⟨#[49, 48, 48, 48, 48, 48, 48, 48, 48, 48, 48, 48, 48, 48, 48, 49]⟩] 9)) (some ⟨w.heap.size + 2, 0, none⟩) (rangL 2) := by
    have h := srow_new ((w.alloc (.cells #[.string ⟨#[48]⟩, .string ⟨#[116, 105, 99, 107]⟩, .string ⟨#[49]⟩] 9)).alloc (.cells #[.string ⟨#[53]⟩, .string ⟨#[110, 101, 101, 100]⟩, .string ⟨#[49, 48, 52, 56, 53, 55, 55]⟩, .string ⟨#[49]⟩] 9)) #[.string ⟨#[53]⟩, .string ⟨#[116, 105, 99, 107]⟩, .string ⟨#[49, 48, 48, 48, 48, 48, 48, 48, 48, 48, 48, 48, 48, 48, 48, 49]⟩] 9 (rangL 2) rfl
    simpa only [size_alloc, Nat.add_assoc, Nat.reduceAdd] using h
  have s2 := s2.below ((Below.refl _ _).alloc (Nat.le_refl _) (.cells #[.string ⟨#[49, 48, 57, 57, 53, 49, 49, 54, 50, 55, 55, 55, 55]⟩, .string ⟨#[116, 105, 99, 107]⟩, .string ⟨#[49]⟩] 9))
  have s3 : SRow ((((w.alloc (.cells #[.string ⟨#[48]⟩, .string ⟨#[116, 105, 99, 107]⟩, .string ⟨#[49]⟩] 9)).alloc (.cells #[.string ⟨#[53]⟩, .string ⟨#[110, 101, 101, 100]⟩, .string ⟨#[49, 48, 52, 56, 53, 55, 55]⟩, .string ⟨#[49]⟩] 9)).alloc (.cells #[.string ⟨#[53]⟩, .string ⟨#[116, 105, 99, 107]⟩, .string ⟨#[49, 48, 48, 48, 48, 48, 48, 48, 48, 48, 48, 48, 48, 48, 48, 49]⟩] 9)).alloc (.cells #[.string ⟨#[49, 48, 57, 57, 53, 49, 49, 54, 50, 55, 55, 55, 55]⟩, .string ⟨#[116, 105, 99, 107]⟩, .string ⟨#[49]⟩] 9)) (some ⟨w.heap.size + 3, 0, none⟩) (rangL 3) := by
    have h := srow_new (((w.alloc (.cells #[.string ⟨#[48]⟩, .string ⟨#[116, 105, 99, 107]⟩, .string ⟨#[49]⟩] 9)).alloc (.cells #[.string ⟨#[53]⟩, .string ⟨#[110, 101, 101, 100]⟩, .string ⟨#[49, 48, 52, 56, 53, 55, 55]⟩, .string ⟨#[49]⟩] 9)).alloc (.cells #[.string ⟨#[53]⟩, .string ⟨#[116, 105, 99, 107]⟩, .string ⟨#[49, 48, 48, 48, 48, 48, 48, 48, 48, 48, 48, 48, 48, 48, 48, 49]⟩] 9)) #[.string ⟨#[49, 48, 57, 57, 53, 49, 49, 54, 50, 55, 55, 55, 55]⟩, .string ⟨#[116, 105, 99, 107]⟩, .string ⟨#[49]⟩] 9 (rangL 3) rfl
    simpa only [size_alloc, Nat.add_assoc, Nat.reduceAdd] using h
  have h := tab_new ((((w.alloc (.cells #[.string ⟨#[48]⟩, .string ⟨#[116, 105, 99, 107]⟩, .string ⟨#[49]⟩] 9)).alloc (.cells #[.string ⟨#[53]⟩, .string ⟨#[110, 101, 101, 100]⟩, .string ⟨#[49, 48, 52, 56, 53, 55, 55]⟩, .string ⟨#[49]⟩] 9)).alloc (.cells #[.string ⟨#[53]⟩, .string ⟨#[116, 105, 99, 107]⟩, .string ⟨#[49, 48, 48, 48, 48, 48, 48, 48, 48, 48, 48, 48, 48, 48, 48, 49]⟩] 9)).alloc (.cells #[.string ⟨#[49, 48, 57, 57, 53, 49, 49, 54, 50, 55, 55, 55, 55]⟩, .string ⟨#[116, 105, 99, 107]⟩, .string ⟨#[49]⟩] 9)) #[.slice (some ⟨w.heap.size, 0, none⟩) 3 3, .slice (some ⟨w.heap.size + 1, 0, none⟩) 4 4, .slice (some ⟨w.heap.size + 2, 0, none⟩) 3 3, .slice (some ⟨w.heap.size + 3, 0, none⟩) 3 3] 59 4 rangL (fun i => match i with | 0 => some ⟨w.heap.size, 0, none⟩ | 1 => some ⟨w.heap.size + 1, 0, none⟩ | 2 => some ⟨w.heap.size + 2, 0, none⟩ | _ => some ⟨w.heap.size + 3, 0, none⟩)
    (fun i hi => by
      have : i = 0 ∨ i = 1 ∨ i = 2 ∨ i = 3 := by omega
      rcases this with rfl | rfl | rfl | rfl <;> rfl)
    (fun i hi => by
      have : i = 0 ∨ i = 1 ∨ i = 2 ∨ i = 3 := by omega
      rcases this with rfl | rfl | rfl | rfl
      · exact s0
      · exact s1
      · exact s2
      · exact s3
      )
  simpa only [size_alloc, Nat.add_assoc, Nat.reduceAdd] using h
end Go.Proofs.YtkdmedmlbglgmaaDoor
