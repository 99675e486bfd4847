/- The first bytes of a root's with another's, or nothing, behind: what is read is one or the other. Plain lists. -/
import Derived.Test.YtehacchacgfjlaaDoorRootLaw
namespace Go.Proofs.YtehacchacgfjlaaDoor
open Go Go.RowKit
set_option linter.unusedSimpArgs false
set_option linter.unusedVariables false

def tornL (y x : List Int) (n : Nat) : List Int := y.take n ++ x.drop n
theorem tornL_length {y x : List Int} {n : Nat} (hy : y.length = 128) (hx : x.length = 128) (hn : n ≤ 128) : (tornL y x n).length = 128 := by
  unfold tornL; rw [List.length_append, List.length_take, List.length_drop]; omega
theorem tornL_get {y x : List Int} {n : Nat} (hy : y.length = 128) (hx : x.length = 128) (hn : n ≤ 128) (i : Nat) (hi : i < 128) : (tornL y x n).getD i 0 = if i < n then y.getD i 0 else x.getD i 0 := by
  unfold tornL
  simp only [List.getD, List.getElem?_append, List.length_take, hy, List.getElem?_take, List.getElem?_drop, Nat.min_eq_left hn]
  split
  · rfl
  · rename_i h; rw [show n + (i - n) = i by omega]
theorem ext128 {s t : List Int} (hs : s.length = 128) (ht : t.length = 128) (h : ∀ i, i < 128 → s.getD i 0 = t.getD i 0) : s = t := by
  refine List.ext_getElem (by omega) fun i h1 h2 => ?_
  have := h i (by omega)
  simpa [List.getD, h1, h2] using this
theorem byteAt_inj (e e' : Int) (h0 : 0 ≤ e ∧ e ≤ 1099511627776) (h1 : 0 ≤ e' ∧ e' ≤ 1099511627776) (h : ∀ i, i < 6 → byteAt e i = byteAt e' i) : e = e' := by
  rw [← six_bytes e h0.1 h0.2, ← six_bytes e' h1.1 h1.2, h 0 (by decide), h 1 (by decide), h 2 (by decide), h 3 (by decide), h 4 (by decide), h 5 (by decide)]
theorem byteAt_zero (k : Nat) : byteAt 0 k = 0 := by simp [byteAt]
theorem rbAt_front (e : Int) (l : List Int) (i : Nat) (h : i < 6) : rbAt e l i = byteAt e i := by unfold rbAt; rw [if_pos h]
theorem rbAt_back (e : Int) (l : List Int) (hl : l.length ≤ 40) (i : Nat) (h : i < 6) : rbAt e l (122 + i) = byteAt e i := by
  unfold rbAt
  rw [if_neg (by omega), if_neg (by omega), if_neg (by omega), if_pos (by omega), show 122 + i - 122 = i by omega]
theorem zeros_get (i : Nat) : (List.replicate 128 (0 : Int)).getD i 0 = 0 := by
  simp only [List.getD, List.getElem?_replicate]
  split <;> rfl
/-- x's last bytes say the number ex. -/
def backOf (x : List Int) (ex : Int) : Prop := ∀ i, i < 6 → x.getD (122 + i) 0 = byteAt ex i
theorem back_root (e : Int) (l : List Int) (hl : l.length ≤ 40) : backOf (rootL e l) e := fun i hi => by
  rw [rootL_get _ _ _ (by omega), rbAt_back e l hl i hi]
theorem back_zero : backOf (List.replicate 128 0) 0 := fun i _ => by rw [zeros_get, byteAt_zero]
/-- What is read of torn bytes: y whole, or x whole with its own number in front. -/
theorem torn_cases {b ex : Int} {m x : List Int} (hb : rootOk b m) (hx : x.length = 128) (hbx : backOf x ex) (hex : 0 ≤ ex ∧ ex ≤ 1099511627776) (hne : ex ≠ b) {n : Nat} (hn : n ≤ 128) {e : Int} {l : List Int} (h : readL (tornL (rootL b m) x n) = some (e, l)) :
    (tornL (rootL b m) x n = rootL b m) ∨ (e = ex ∧ n < 6 ∧ ∀ i, i < n → (rootL b m).getD i 0 = byteAt ex i) := by
  obtain ⟨⟨he, hle, hll⟩, ht⟩ := readL_some h
  have hy := rootL_length b m
  have hg : ∀ i, i < 128 → (if i < n then (rootL b m).getD i 0 else x.getD i 0) = rbAt e l i := fun i hi => by
    rw [← tornL_get hy hx hn i hi, ht, rootL_get _ _ _ hi]
  by_cases h6 : 6 ≤ n
  · have e1 : e = b := byteAt_inj e b ⟨by have := he.1; omega, he.2⟩ ⟨by have := hb.1.1; omega, hb.1.2⟩ fun i hi => by
      have := hg i (by omega)
      rw [if_pos (by omega), rootL_get _ _ _ (by omega), rbAt_front _ _ _ hi, rbAt_front _ _ _ hi] at this
      exact this.symm
    by_cases h122 : 122 ≤ n
    · refine .inl (ext128 (tornL_length hy hx hn) hy fun i hi => ?_)
      rw [tornL_get hy hx hn i hi]
      by_cases hin : i < n
      · rw [if_pos hin]
      · rw [if_neg hin]
        have := hg i hi
        rw [if_neg hin] at this
        rw [this, rootL_get _ _ _ hi]
        obtain ⟨j, rfl⟩ : ∃ j, i = 122 + j := ⟨i - 122, by omega⟩
        rw [rbAt_back e l hll j (by omega), rbAt_back b m hb.2.2 j (by omega), e1]
    · exfalso
      refine hne (byteAt_inj ex b hex ⟨by have := hb.1.1; omega, hb.1.2⟩ fun i hi => ?_)
      have := hg (122 + i) (by omega)
      rw [if_neg (by omega), hbx i hi, rbAt_back e l hll i hi, e1] at this
      exact this
  · have e1 : e = ex := byteAt_inj e ex ⟨by have := he.1; omega, he.2⟩ hex fun i hi => by
      have := hg (122 + i) (by omega)
      rw [if_neg (by omega), hbx i hi, rbAt_back e l hll i hi] at this
      exact this.symm
    refine .inr ⟨e1, by omega, fun i hi => ?_⟩
    have := hg i (by omega)
    rw [if_pos hi, rbAt_front _ _ _ (by omega), e1] at this
    exact this
/-- With another root behind. -/
theorem torn_root {a b : Int} {l m : List Int} (ha : rootOk a l) (hb : rootOk b m) (hne : a ≠ b) {n : Nat} (hn : n ≤ 128) {r : Int × List Int} (h : readL (tornL (rootL b m) (rootL a l) n) = some r) : r = (b, m) ∨ r = (a, l) := by
  obtain ⟨e, q⟩ := r
  have hy := rootL_length b m
  have hx := rootL_length a l
  rcases torn_cases hb hx (back_root a l ha.2.2) ⟨by have := ha.1.1; omega, ha.1.2⟩ hne hn h with h1 | ⟨h1, h2, h3⟩
  · rw [h1, readL_rootL b m hb] at h
    exact .inl (Option.some.inj h).symm
  · have : tornL (rootL b m) (rootL a l) n = rootL a l := ext128 (tornL_length hy hx hn) hx fun i hi => by
      rw [tornL_get hy hx hn i hi]
      by_cases hin : i < n
      · rw [if_pos hin, h3 i hin, rootL_get _ _ _ hi, rbAt_front _ _ _ (by omega)]
      · rw [if_neg hin]
    rw [this, readL_rootL a l ha] at h
    exact .inr (Option.some.inj h).symm
/-- With nothing behind. -/
theorem torn_zero {b : Int} {m : List Int} (hb : rootOk b m) {n : Nat} (hn : n ≤ 128) {r : Int × List Int} (h : readL (tornL (rootL b m) (List.replicate 128 0) n) = some r) : r = (b, m) := by
  obtain ⟨e, q⟩ := r
  have hy := rootL_length b m
  rcases torn_cases hb (by simp) back_zero ⟨by decide, by decide⟩ (by have := hb.1.1; omega) hn h with h1 | ⟨h1, _, _⟩
  · rw [h1, readL_rootL b m hb] at h
    exact (Option.some.inj h).symm
  · have := (readL_some h).1.1.1
    omega
theorem torn_all {b : Int} {m x : List Int} (hb : rootOk b m) (hx : x.length = 128) : readL (tornL (rootL b m) x 128) = some (b, m) := by
  have : tornL (rootL b m) x 128 = rootL b m := ext128 (tornL_length (rootL_length _ _) hx (Nat.le_refl _)) (rootL_length _ _) fun i hi => by
    rw [tornL_get (rootL_length _ _) hx (Nat.le_refl _) i hi, if_pos hi]
  rw [this, readL_rootL b m hb]
theorem torn_none {a : Int} {y l : List Int} (ha : rootOk a l) : readL (tornL y (rootL a l) 0) = some (a, l) := by
  unfold tornL
  rw [List.take_zero, List.drop_zero, List.nil_append, readL_rootL a l ha]
end Go.Proofs.YtehacchacgfjlaaDoor
