/- pledgelaw25.first: the chapter's example of an operation's text. -/
import Derived.Test.YtchbkceconlbkaaGreatDoorOpText
namespace Go.Proofs.YtchbkceconlbkaaGreatDoor
open Go Go.RowKit
set_option linter.unusedSimpArgs false
set_option linter.unusedVariables false

theorem itoa7 : Lib.itoa 7 = [55] := by simp [Lib.itoa, Lib.decDigits]
theorem itoa1 : Lib.itoa 1 = [49] := by simp [Lib.itoa, Lib.decDigits]
theorem itoa2 : Lib.itoa 2 = [50] := by simp [Lib.itoa, Lib.decDigits]
theorem itoa100 : Lib.itoa 100 = [49, 48, 48] := by simp [Lib.itoa, Lib.decDigits]
theorem first25_valid : validC 7 10 1 2 0 0 100 0 = 0 := by decide
theorem first25_words : wordsT 7 10 1 2 0 0 100 0 = [⟨(Lib.itoa 7).toArray⟩, wordB 10, ⟨(Lib.itoa 1).toArray⟩, ⟨(Lib.itoa 2).toArray⟩, ⟨(Lib.itoa 100).toArray⟩] := by rfl
theorem first25_text : textB 7 10 1 2 0 0 100 0 = ⟨#[55, 32, 100, 101, 112, 111, 115, 105, 116, 32, 49, 32, 50, 32, 49, 48, 48]⟩ := by
  unfold textB textT
  rw [if_pos first25_valid, first25_words, itoa7, itoa1, itoa2, itoa100]
  rfl

theorem first25_calls {B : Nat} {p : Nat → Addr} {w : World} (hE : Errs (List.range 21) B p w) (hT : OpW B w) :
    Calls Tryz.prog 4 #[] w fun e w' => e = .returned (.bool true) ∧ Below w.heap.size w w' := by
  have hc := text_calls hE hT 7 10 1 2 0 0 100 0
  rw [first25_text] at hc
  have HC := Lib.hid hc
  clear hc hE hT
  go_enter Tryz.func4, Tryz.ntmps4
  go_wp2_with fail
  refine HC.out.mono ?_
  rintro e w1 ⟨rfl, hb⟩
  go_wp2_with fail
  go_ret
  exact ⟨rfl, hb⟩
end Go.Proofs.YtchbkceconlbkaaGreatDoor
