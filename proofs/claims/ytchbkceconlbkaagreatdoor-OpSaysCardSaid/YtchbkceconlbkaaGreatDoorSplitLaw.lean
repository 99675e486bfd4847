/- A text cut at its blanks: the words of joined words are these words. Plain Lean, no program. -/
import Derived.Lib.Join
namespace Go.Proofs.YtchbkceconlbkaaGreatDoor

def splitA : List UInt8 → List UInt8 → List (List UInt8)
  | [], cur => [cur]
  | c :: r, cur => if c = 32 then cur :: splitA r [] else splitA r (cur ++ [c])
theorem splitA_word (x : List UInt8) (hx : 32 ∉ x) (r cur : List UInt8) : splitA (x ++ r) cur = splitA r (cur ++ x) := by
  induction x generalizing cur with
  | nil => simp
  | cons c x ih =>
    have h1 : c ≠ 32 := fun e => hx (by simp [e])
    rw [List.cons_append, splitA, if_neg h1, ih (fun h => hx (by simp [h]))]
    simp
theorem splitA_tail (r : List (List UInt8)) (hr : ∀ x ∈ r, 32 ∉ x) (cur : List UInt8) : splitA (Go.Lib.joinTail [32] r) cur = cur :: r := by
  induction r generalizing cur with
  | nil => rfl
  | cons x r ih =>
    have e : Go.Lib.joinTail [32] (x :: r) = 32 :: (x ++ Go.Lib.joinTail [32] r) := by simp [Go.Lib.joinTail]
    rw [e, splitA, if_pos rfl, splitA_word x (hr x (by simp)), ih (fun y hy => hr y (by simp [hy]))]
    simp
theorem splitA_join (x : List UInt8) (r : List (List UInt8)) (hx : 32 ∉ x) (hr : ∀ y ∈ r, 32 ∉ y) : splitA (Go.Lib.join (x :: r) [32]) [] = x :: r := by
  rw [Go.Lib.join_cons, splitA_word x hx, splitA_tail r hr]
  simp
/-- The loop: i bytes seen, the words so far, the place where the word at hand begins. -/
structure SplitAt (t : List UInt8) (i : Nat) (ws : List (List UInt8)) (f : Nat) : Prop where
  le : f ≤ i
  all : splitA t [] = ws ++ splitA (t.drop i) ((t.drop f).take (i - f))
theorem SplitAt.start (t : List UInt8) : SplitAt t 0 [] 0 := ⟨Nat.le_refl _, by simp⟩
theorem SplitAt.blank {t : List UInt8} {i f : Nat} {ws : List (List UInt8)} (h : SplitAt t i ws f) (hi : i < t.length) (hb : t[i] = 32) : SplitAt t (i + 1) (ws ++ [(t.drop f).take (i - f)]) (i + 1) := by
  refine ⟨Nat.le_refl _, ?_⟩
  rw [h.all, List.drop_eq_getElem_cons hi, splitA, if_pos hb]
  simp
theorem SplitAt.other {t : List UInt8} {i f : Nat} {ws : List (List UInt8)} (h : SplitAt t i ws f) (hi : i < t.length) (hb : t[i] ≠ 32) : SplitAt t (i + 1) ws f := by
  have hf := h.le
  refine ⟨by omega, ?_⟩
  rw [h.all, List.drop_eq_getElem_cons hi, splitA, if_neg hb]
  congr 2
  rw [show i + 1 - f = (i - f) + 1 by omega, List.take_add_one, List.getElem?_drop, show f + (i - f) = i by omega, List.getElem?_eq_getElem hi]
  rfl
theorem SplitAt.done {t : List UInt8} {f : Nat} {ws : List (List UInt8)} (h : SplitAt t t.length ws f) : splitA t [] = ws ++ [(t.drop f).take (t.length - f)] := by
  rw [h.all, List.drop_length]
  rfl
end Go.Proofs.YtchbkceconlbkaaGreatDoor
