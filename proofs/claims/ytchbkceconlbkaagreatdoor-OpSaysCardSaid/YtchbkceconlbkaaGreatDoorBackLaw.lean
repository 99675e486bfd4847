/- What was laid is read, and what was told is parsed: an operation's bytes and texts are its own. Plain, no program. -/
import Derived.Test.YtchbkceconlbkaaGreatDoorReadDef
import Derived.Test.YtchbkceconlbkaaGreatDoorParseLaw
import Derived.Test.YtchbkceconlbkaaGreatDoorSplitLaw
namespace Go.Proofs.YtchbkceconlbkaaGreatDoor
open Go Go.RowKit
set_option linter.unusedSimpArgs false
set_option linter.unusedVariables false

section
variable {id k a b c d n m : Int} (h : validC id k a b c d n m = 0)
include h
theorem laid_len : (numsB (numsO id k a b c d n m)).length ≤ 80 := numsB_len _ (numsO_in h)
theorem laid_read (rest : List UInt8) : readQ (numsB (numsO id k a b c d n m) ++ rest) 8 = (numsO id k a b c d n m, ((numsB (numsO id k a b c d n m)).length, none)) := by
  have := readQ_nums (numsO id k a b c d n m) rest (numsO_in h) 8 (Nat.le_refl _)
  rw [this]
  rfl
theorem readF_laid : readF (numsB (numsO id k a b c d n m)) = (0, false, 0) ∧ readO (numsB (numsO id k a b c d n m)) = opV id k a b c d n m := by
  have hl := laid_len h
  have hr := laid_read h []
  rw [List.append_nil] at hr
  have hn : ∀ j, readN (numsB (numsO id k a b c d n m)) j = (numsO id k a b c d n m).getD j 0 := fun j => by unfold readN; rw [hr]
  have hv : readV (numsB (numsO id k a b c d n m)) = 0 := by
    unfold readV
    simp only [hn]
    exact h
  have hf : readF (numsB (numsO id k a b c d n m)) = (0, false, 0) := by
    rw [readF_all (by omega) (by rw [hr]) (by rw [hr]; exact Nat.lt_irrefl _), hv]
    rfl
  refine ⟨hf, ?_⟩
  unfold readO
  rw [hf, if_pos rfl]
  simp only [hn]
  rfl
theorem readF_cut (q : Nat) (hq : q < (numsB (numsO id k a b c d n m)).length) : ∃ e p, readF ((numsB (numsO id k a b c d n m)).take q) = (e, true, p) := by
  have hl := laid_len h
  obtain ⟨⟨e, p⟩, he⟩ := readQ_cut (numsO id k a b c d n m) (numsO_in h) q hq
  exact ⟨e, p, readF_err (by rw [List.length_take]; omega) he⟩
theorem readF_more : readF (numsB (numsO id k a b c d n m) ++ [0]) = (102, true, (numsB (numsO id k a b c d n m)).length) := by
  have hl := laid_len h
  have hr := laid_read h [0]
  rw [readF_left (by rw [List.length_append, List.length_singleton]; omega) (by rw [hr]) (by rw [hr, List.length_append, List.length_singleton]; exact Nat.lt_succ_self _), hr]
omit h in
theorem words_lists : (wordsT id k a b c d n m).map (·.data.toList) = (itoaB id).data.toList :: (nameB k).data.toList :: ((usesB k.toNat).data.toList.map (fun q => (itoaB (fieldAt a b c d n m (letterIx q))).data.toList)) := by
  simp [wordsT]
theorem no_blank : ∀ x ∈ (wordsT id k a b c d n m).map (·.data.toList), 32 ∉ x := by
  obtain ⟨h1, h2, h3, h4⟩ := validC_zero h
  have hk : 1 ≤ k ∧ k ≤ 16 := by simpa [isK] using h3
  have num : ∀ y : Int, 0 ≤ y → 32 ∉ (itoaB y).data.toList := fun y hy hm => by
    have e : (itoaB y).data.toList = Lib.decDigits y.toNat := by
      show Lib.itoa y = _
      unfold Lib.itoa; rw [if_neg (by omega)]
    rw [e] at hm
    have := List.all_eq_true.1 (dec_dig y.toNat) 32 hm
    cases this
  rw [words_lists]
  intro x hx
  simp only [List.mem_cons, List.mem_map] at hx
  rcases hx with rfl | rfl | ⟨q, hq, rfl⟩
  · exact num id (by omega)
  · have hn : nameB k = wordB k.toNat := by simp [nameB, h3]
    rw [hn]
    have key : ∀ j, j < 17 → 32 ∉ (wordB j).data.toList := by decide +kernel
    exact key _ (by omega)
  · obtain ⟨_, hq2, _⟩ := uses_letters k.toNat q hq
    exact num _ (fieldBad_bounds (h4 _ hq2)).1
theorem text_split : splitA (textT id k a b c d n m).data.toList [] = (wordsT id k a b c d n m).map (·.data.toList) := by
  have hn := no_blank h
  rw [words_lists] at hn ⊢
  have e : (textT id k a b c d n m).data.toList = Lib.join ((wordsT id k a b c d n m).map (·.data.toList)) [32] := rfl
  rw [e, words_lists]
  exact splitA_join _ _ (hn _ (by simp)) (fun y hy => hn y (by simp only [List.mem_cons] at hy ⊢; exact .inr hy))
end
theorem bytes_of_lists {xs ys : List ByteArray} (h : xs.map (·.data.toList) = ys.map (·.data.toList)) : xs = ys := by
  induction xs generalizing ys with
  | nil => cases ys with
    | nil => rfl
    | cons y ys => simp at h
  | cons x xs ih => cases ys with
    | nil => simp at h
    | cons y ys =>
      simp only [List.map_cons, List.cons.injEq] at h
      rw [ih h.2]
      congr 1
      exact ByteArray.ext (Array.toList_inj.1 h.1)
def sameO (id k a b c d n m id' k' a' b' c' d' n' m' : Int) : Bool := decide (numsO id k a b c d n m = numsO id' k' a' b' c' d' n' m')
theorem bytesI_inj {x y : List UInt8} (h : bytesI x = bytesI y) : x = y := by
  induction x generalizing y with
  | nil => cases y with
    | nil => rfl
    | cons b y => simp [bytesI] at h
  | cons a x ih => cases y with
    | nil => simp [bytesI] at h
    | cons b y =>
      simp only [bytesI, List.map_cons, List.cons.injEq] at h
      rw [ih h.2, UInt8.toNat_inj.1 (by have := h.1; omega : a.toNat = b.toNat)]
section
variable {id k a b c d n m id' k' a' b' c' d' n' m' : Int} (h : validC id k a b c d n m = 0) (h' : validC id' k' a' b' c' d' n' m' = 0)
include h h'
theorem bytes_same : decide (bytesI (numsB (numsO id k a b c d n m)) = bytesI (numsB (numsO id' k' a' b' c' d' n' m'))) = sameO id k a b c d n m id' k' a' b' c' d' n' m' := by
  unfold sameO
  rw [decide_eq_decide]
  constructor
  · intro e
    exact numsB_inj (numsO_in h) (numsO_in h') rfl (bytesI_inj e)
  · intro e; rw [e]
theorem text_same : decide ((textT id' k' a' b' c' d' n' m').data.toList = (textT id k a b c d n m).data.toList) = sameO id k a b c d n m id' k' a' b' c' d' n' m' := by
  unfold sameO
  rw [decide_eq_decide]
  constructor
  · intro e
    have e2 := text_split h
    rw [← e, text_split h'] at e2
    have e3 := bytes_of_lists e2
    have p1 := (parse_words h).2
    rw [← e3, (parse_words h').2] at p1
    simp only [Value.agg.injEq, Array.mk.injEq, List.cons.injEq, Value.int.injEq, true_and, and_true] at p1
    obtain ⟨rfl, rfl, rfl, rfl, rfl, rfl, rfl, rfl⟩ := p1
    rfl
  · intro e
    simp only [numsO, List.cons.injEq, and_true] at e
    obtain ⟨rfl, rfl, rfl, rfl, rfl, rfl, rfl, rfl⟩ := e
    rfl
end
end Go.Proofs.YtchbkceconlbkaaGreatDoor
