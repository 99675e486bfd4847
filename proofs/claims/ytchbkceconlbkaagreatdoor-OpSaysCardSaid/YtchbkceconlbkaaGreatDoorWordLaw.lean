/- op.Parse's answer by digits alone (to be reckoned at written words); the words of the kinds are unlike. Plain, no program. -/
import Derived.Test.YtchbkceconlbkaaGreatDoorParseLaw
namespace Go.Proofs.YtchbkceconlbkaaGreatDoor
open Go Go.RowKit
set_option linter.unusedSimpArgs false
set_option linter.unusedVariables false

def numD (ws : List ByteArray) (i : Nat) : Int := (valD (wordAt ws i) : Int)
def fitsD (ws : List ByteArray) (i : Nat) : Bool := i == 1 || isNumW (wordAt ws i)
def fieldD (ws : List ByteArray) (j : Nat) : Int := fAt (usesL (kindW ws)) (numD ws) (usesL (kindW ws)).length j
def validD (ws : List ByteArray) : Nat := validC (numD ws 0) (kindW ws) (fieldD ws 0) (fieldD ws 1) (fieldD ws 2) (fieldD ws 3) (fieldD ws 4) (fieldD ws 5)
def parseD (ws : List ByteArray) : Nat :=
  if ws.length < 2 then 118
  else if kindW ws = 0 then 118
  else if ws.length ≠ 2 + (usesL (kindW ws)).length then 118
  else if (List.range ws.length).all (fitsD ws) = false then 119
  else codeV (validD ws)
theorem fitsD_eq (ws : List ByteArray) : fitsD ws = fitsAt ws := funext fun i => by unfold fitsD fitsAt; rw [numW_fits]
theorem numD_eq {ws : List ByteArray} {i : Nat} (hi : i ≠ 1) (h : fitsAt ws i = true) : numAt ws i = numD ws i := by
  have hf : isNumW (wordAt ws i) = true := by
    rw [← fitsD_eq] at h
    simpa [fitsD, hi] using h
  exact numW_val _ hf
theorem fieldD_eq {ws : List ByteArray} (hl : ws.length = 2 + (usesL (kindW ws)).length) (h : ∀ i, i < ws.length → fitsAt ws i = true) (j : Nat) : fieldW ws j = fieldD ws j := by
  unfold fieldW fieldD fAt
  split
  · rename_i hi
    exact numD_eq (by omega) (h _ (by omega))
  · rfl
theorem validD_eq {ws : List ByteArray} (hl : ws.length = 2 + (usesL (kindW ws)).length) (h : ∀ i, i < ws.length → fitsAt ws i = true) : validW ws = validD ws := by
  unfold validW validD
  rw [fieldD_eq hl h, fieldD_eq hl h, fieldD_eq hl h, fieldD_eq hl h, fieldD_eq hl h, fieldD_eq hl h, numD_eq (by decide) (h 0 (by omega))]
theorem parseD_eq (ws : List ByteArray) : parseC ws = parseD ws := by
  unfold parseC parseD
  rw [fitsD_eq]
  split
  · rfl
  · split
    · rfl
    · split
      · rfl
      · split
        · rfl
        · rename_i h1 h2 h3 h4
          rw [validD_eq (by omega)]
          intro i hi
          rw [Bool.not_eq_false, List.all_eq_true] at h4
          exact h4 i (by simpa using hi)

def B5 : ByteArray := ⟨#[53]⟩
/-- The statement's words. -/
def wordL : Nat → List ByteArray
  | 0 => []
  | 1 => [⟨#[53]⟩]
  | 2 => [⟨#[53]⟩, ⟨#[100, 101, 112, 111, 115, 105, 116, 115]⟩, ⟨#[49]⟩, ⟨#[50]⟩, ⟨#[51]⟩]
  | 3 => [⟨#[53]⟩, ⟨#[100, 101, 112, 111, 115, 105, 116]⟩, ⟨#[49]⟩, ⟨#[50]⟩]
  | 4 => [⟨#[120]⟩, ⟨#[116, 105, 99, 107]⟩, ⟨#[49]⟩, ⟨#[50]⟩]
  | _ => [⟨#[53]⟩, ⟨#[]⟩]
def numberL : Nat → List ByteArray
  | 0 => [⟨#[120]⟩, ⟨#[116, 105, 99, 107]⟩, ⟨#[49]⟩]
  | 1 => [⟨#[53]⟩, ⟨#[110, 101, 101, 100]⟩, ⟨#[49]⟩, ⟨#[48, 49]⟩]
  | 2 => [⟨#[48, 53]⟩, ⟨#[116, 105, 99, 107]⟩, ⟨#[49]⟩]
  | 3 => [⟨#[53]⟩, ⟨#[102, 117, 110, 100]⟩, ⟨#[]⟩, ⟨#[49]⟩]
  | _ => [⟨#[53]⟩, ⟨#[116, 105, 99, 107]⟩, ⟨#[49, 50, 51, 52, 53, 54, 55, 56, 57, 48, 49, 50, 51, 52, 53, 54, 55, 56, 57]⟩]
def rangL : Nat → List ByteArray
  | 0 => [⟨#[48]⟩, ⟨#[116, 105, 99, 107]⟩, ⟨#[49]⟩]
  | 1 => [⟨#[53]⟩, ⟨#[110, 101, 101, 100]⟩, ⟨#[49, 48, 52, 56, 53, 55, 55]⟩, ⟨#[49]⟩]
  | 2 => [⟨#[53]⟩, ⟨#[116, 105, 99, 107]⟩, ⟨#[49, 48, 48, 48, 48, 48, 48, 48, 48, 48, 48, 48, 48, 48, 48, 49]⟩]
  | _ => [⟨#[49, 48, 57, 57, 53, 49, 49, 54, 50, 55, 55, 55, 55]⟩, ⟨#[116, 105, 99, 107]⟩, ⟨#[49]⟩]
theorem wordL_code : ∀ i, i < 6 → parseC (wordL i) = 118 := fun i hi => by
  rw [parseD_eq]
  revert i
  decide +kernel
theorem numberL_code : ∀ i, i < 5 → parseC (numberL i) = 119 := fun i hi => by
  rw [parseD_eq]
  revert i
  decide +kernel
theorem rangL_code : ∀ i, i < 4 → parseC (rangL i) = 103 := fun i hi => by
  rw [parseD_eq]
  revert i
  decide +kernel
theorem words_some : ∀ a, a < 16 → (wordB (a + 1)).data.toList ≠ [] := by decide +kernel
theorem words_unlike : ∀ a, a < 16 → ∀ b, b < 16 → ((wordB (a + 1)).data.toList = (wordB (b + 1)).data.toList → a = b) := by decide +kernel
theorem sizes_ok : (∀ i, i < 6 → ∀ j, j < (wordL i).length → ((wordL i).getD j ⟨#[]⟩).size ≤ 20) ∧ (∀ i, i < 5 → ∀ j, j < (numberL i).length → ((numberL i).getD j ⟨#[]⟩).size ≤ 20) ∧ (∀ i, i < 4 → ∀ j, j < (rangL i).length → ((rangL i).getD j ⟨#[]⟩).size ≤ 20) := by decide +kernel
theorem lens_ok : (∀ i, (wordL i).length ≤ 5) ∧ (∀ i, (numberL i).length ≤ 5) ∧ (∀ i, (rangL i).length ≤ 5) := by
  refine ⟨fun i => ?_, fun i => ?_, fun i => ?_⟩
  · unfold wordL; split <;> decide
  · unfold numberL; split <;> decide
  · unfold rangL; split <;> decide
end Go.Proofs.YtchbkceconlbkaaGreatDoor
