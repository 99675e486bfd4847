/- What op.Parse says of words; an operation's own words are parsed as it. Plain, no program. -/
import Derived.Test.YtchbkceconlbkaaGreatDoorOpText
import Derived.Test.YtchbkceconlbkaaGreatDoorNumLaw
import Derived.Lib.SlicesS
namespace Go.Proofs.YtchbkceconlbkaaGreatDoor
open Go Go.RowKit
set_option linter.unusedSimpArgs false
set_option linter.unusedVariables false

def namesL : List ByteArray := (List.range 16).map fun j => wordB (j + 1)
/-- The kind of a word; 0: none. -/
def kindOf (x : ByteArray) : Nat := (Lib.idxOfS namesL x + 1).toNat
theorem idxFrom_bounds (x : ByteArray) : ∀ (zs : List ByteArray) (i : Nat), -1 ≤ Lib.idxFromS zs x i ∧ Lib.idxFromS zs x i < i + zs.length
  | [], i => by simp [Lib.idxFromS]; omega
  | z :: zs, i => by
    have ih := idxFrom_bounds x zs (i + 1)
    unfold Lib.idxFromS
    simp only [List.length_cons]
    split <;> omega
theorem kindOf_idx (x : ByteArray) : Lib.idxOfS namesL x = (kindOf x : Int) - 1 ∧ kindOf x ≤ 16 := by
  have := idxFrom_bounds x namesL 0
  have hl : namesL.length = 16 := rfl
  rw [hl] at this
  unfold kindOf Lib.idxOfS
  omega
def wordAt (ws : List ByteArray) (i : Nat) : List UInt8 := (ws.getD i ⟨#[]⟩).data.toList
/-- Word i as a number. -/
def numAt (ws : List ByteArray) (i : Nat) : Int := (numW (wordAt ws i)).1
def fitsAt (ws : List ByteArray) (i : Nat) : Bool := i == 1 || (numW (wordAt ws i)).2
/-- Field j of an operation whose letters are u, whose words begin with the fields at place 2. -/
def fAt (u : List UInt8) (f : Nat → Int) (q j : Nat) : Int := if u.idxOf (letterAt j) < q then f (2 + u.idxOf (letterAt j)) else 0
def kindW (ws : List ByteArray) : Nat := kindOf (ws.getD 1 ⟨#[]⟩)
def usesL (k : Nat) : List UInt8 := (usesB k).data.toList
def fieldW (ws : List ByteArray) (j : Nat) : Int := fAt (usesL (kindW ws)) (numAt ws) (usesL (kindW ws)).length j
def validW (ws : List ByteArray) : Nat := validC (numAt ws 0) (kindW ws) (fieldW ws 0) (fieldW ws 1) (fieldW ws 2) (fieldW ws 3) (fieldW ws 4) (fieldW ws 5)
/-- The error's number (0: none) as the statements count. -/
def codeV : Nat → Nat
  | 0 => 0
  | 1 => 103
  | _ => 111
def parseC (ws : List ByteArray) : Nat :=
  if ws.length < 2 then 118
  else if kindW ws = 0 then 118
  else if ws.length ≠ 2 + (usesL (kindW ws)).length then 118
  else if (List.range ws.length).all (fitsAt ws) = false then 119
  else codeV (validW ws)
def parseO (ws : List ByteArray) : Value :=
  if parseC ws = 0 then opV (numAt ws 0) (kindW ws) (fieldW ws 0) (fieldW ws 1) (fieldW ws 2) (fieldW ws 3) (fieldW ws 4) (fieldW ws 5) else opV 0 0 0 0 0 0 0 0
def errN (p : Nat → Addr) : Nat → Value
  | 0 => .nilIface
  | c + 1 => ev p (c + 1 - 101)
theorem errN_valV (p : Nat → Addr) (c : Nat) : errN p (codeV c) = valV p c := by
  match c with
  | 0 => rfl
  | 1 => rfl
  | _ + 2 => rfl

/-- The letters of a kind: each once, in their order. -/
theorem uses_idx : ∀ k, k < 17 → ∀ q, q < (usesL k).length → ∀ j, j < 6 → ((usesL k).idxOf (letterAt j) = q ↔ letterIx ((usesL k).getD q 0) = j) := by decide +kernel
theorem uses_has : ∀ k, k < 17 → ∀ j, j < 6 → Lib.contains (usesB k).data.toList [letterAt j] = decide ((usesL k).idxOf (letterAt j) < (usesL k).length) := by decide +kernel
theorem fAt_succ {k q : Nat} (hk : k < 17) (hq : q < (usesL k).length) (f : Nat → Int) {j : Nat} (hj : j < 6) : fAt (usesL k) f (q + 1) j = if j = letterIx ((usesL k).getD q 0) then f (2 + q) else fAt (usesL k) f q j := by
  have h := uses_idx k hk q hq j hj
  unfold fAt
  by_cases e : (usesL k).idxOf (letterAt j) = q
  · rw [if_pos (by omega), if_pos (h.1 e).symm, e]
  · have hne : ¬ j = letterIx ((usesL k).getD q 0) := fun h2 => e (h.2 h2.symm)
    rw [if_neg hne]
    by_cases h3 : (usesL k).idxOf (letterAt j) < q
    · rw [if_pos (by omega), if_pos h3]
    · rw [if_neg (by omega), if_neg h3]
theorem kind_name : ∀ k, k < 17 → 1 ≤ k → kindOf (wordB k) = k := by decide +kernel

theorem wordsT_length (id k a b c d n m : Int) : (wordsT id k a b c d n m).length = 2 + (usesL k.toNat).length := by
  simp [wordsT, usesL]; omega
theorem wordsT_num {id k a b c d n m : Int} (h : validC id k a b c d n m = 0) (i : Nat) (hi : i < 2 + (usesL k.toNat).length) (h1 : i ≠ 1) :
    numW (wordAt (wordsT id k a b c d n m) i) = (if i = 0 then id else fieldAt a b c d n m (letterIx ((usesL k.toNat).getD (i - 2) 0)), true) := by
  obtain ⟨hid1, hid2, hk, hf⟩ := validC_zero h
  have key : ∀ x : Int, 0 ≤ x → x ≤ 1000000000000000 * 2 → numW (itoaB x).data.toList = (x, true) := fun x hx0 hx1 => by
    have hb := isNumW_itoa (n := x) hx0 (by omega)
    have e : (itoaB x).data.toList = Lib.itoa x := rfl
    rw [e]
    refine Prod.ext ?_ ?_
    · rw [numW_val _ hb.1]; exact hb.2
    · rw [numW_fits, hb.1]
  match i, hi, h1 with
  | 0, _, _ =>
    rw [if_pos rfl]
    exact key id (by omega) (by omega)
  | i + 2, hi, _ =>
    have hi2 : i < (usesL k.toNat).length := by omega
    rw [if_neg (by omega), show i + 2 - 2 = i by omega]
    have hw : wordAt (wordsT id k a b c d n m) (i + 2) = (itoaB (fieldAt a b c d n m (letterIx ((usesL k.toNat).getD i 0)))).data.toList := by
      unfold wordAt wordsT
      have hi3 : i < (usesB k.toNat).data.toList.length := hi2
      simp only [List.getD_cons_succ]
      congr 1
      simp only [List.getD, List.getElem?_map, List.getElem?_eq_getElem hi3, usesL]
      rfl
    rw [hw]
    have hm : (usesL k.toNat).getD i 0 ∈ (usesB k.toNat).data.toList := by
      have hi3 : i < (usesB k.toNat).data.toList.length := hi2
      unfold usesL
      rw [List.getD, List.getElem?_eq_getElem hi3]
      exact List.getElem_mem _
    obtain ⟨_, h6, _⟩ := uses_letters k.toNat _ hm
    have := fieldBad_bounds (hf _ h6)
    exact key _ this.1 (by omega)
theorem letterIx_at : ∀ j, j < 6 → letterIx (letterAt j) = j := by decide +kernel
theorem fieldAt_of_words {id k a b c d n m : Int} (h : validC id k a b c d n m = 0) {j : Nat} (hj : j < 6) (hkw : kindW (wordsT id k a b c d n m) = k.toNat) : fieldW (wordsT id k a b c d n m) j = fieldAt a b c d n m j := by
  obtain ⟨hid1, hid2, hk, hf⟩ := validC_zero h
  have hk2 : 1 ≤ k ∧ k ≤ 16 := by simpa [isK] using hk
  unfold fieldW fAt
  rw [hkw]
  by_cases hi : (usesL k.toNat).idxOf (letterAt j) < (usesL k.toNat).length
  · rw [if_pos hi]
    unfold numAt
    rw [wordsT_num h _ (by omega) (by omega), if_neg (by omega)]
    have e : (usesL k.toNat).getD (2 + (usesL k.toNat).idxOf (letterAt j) - 2) 0 = letterAt j := by
      rw [show 2 + (usesL k.toNat).idxOf (letterAt j) - 2 = (usesL k.toNat).idxOf (letterAt j) by omega, List.getD, List.getElem?_eq_getElem hi]
      simp
    rw [e, letterIx_at j hj]
  · rw [if_neg hi]
    have hb := hf j hj
    have hc := uses_has k.toNat (by omega) j hj
    rw [decide_eq_false hi] at hc
    unfold fieldBad usesHas at hb
    rw [hc] at hb
    simp at hb
    exact hb.2.symm
theorem kindW_words {id k a b c d n m : Int} (hk : isK k = true) : kindW (wordsT id k a b c d n m) = k.toNat := by
  have hk2 : 1 ≤ k ∧ k ≤ 16 := by simpa [isK] using hk
  have : (wordsT id k a b c d n m).getD 1 ⟨#[]⟩ = wordB k.toNat := by simp [wordsT, nameB, hk]
  unfold kindW
  rw [this, kind_name k.toNat (by omega) (by omega)]
/-- An operation that may be is what its words say. -/
theorem parse_words {id k a b c d n m : Int} (h : validC id k a b c d n m = 0) : parseC (wordsT id k a b c d n m) = 0 ∧ parseO (wordsT id k a b c d n m) = opV id k a b c d n m := by
  obtain ⟨hid1, hid2, hk, hf⟩ := validC_zero h
  have hk2 : 1 ≤ k ∧ k ≤ 16 := by simpa [isK] using hk
  have hkw := kindW_words (id := id) (a := a) (b := b) (c := c) (d := d) (n := n) (m := m) hk
  have hkc : ((k.toNat : Nat) : Int) = k := by omega
  have h0 : numAt (wordsT id k a b c d n m) 0 = id := by
    unfold numAt
    rw [wordsT_num h 0 (by omega) (by decide)]
    rfl
  have hv : validW (wordsT id k a b c d n m) = 0 := by
    unfold validW
    rw [h0, hkw, hkc, fieldAt_of_words h (by decide) hkw, fieldAt_of_words h (by decide) hkw, fieldAt_of_words h (by decide) hkw, fieldAt_of_words h (by decide) hkw, fieldAt_of_words h (by decide) hkw, fieldAt_of_words h (by decide) hkw]
    exact h
  have hc : parseC (wordsT id k a b c d n m) = 0 := by
    unfold parseC
    rw [wordsT_length, hkw, if_neg (by omega), if_neg (by omega), if_neg (by omega), hv, if_neg]
    · rfl
    · rw [Bool.not_eq_false, List.all_eq_true]
      intro i hi
      have hi2 : i < 2 + (usesL k.toNat).length := by simpa using hi
      unfold fitsAt
      by_cases h1 : i = 1
      · simp [h1]
      · rw [wordsT_num h i hi2 h1]
        simp
  refine ⟨hc, ?_⟩
  unfold parseO
  rw [if_pos hc, h0, hkw, hkc, fieldAt_of_words h (by decide) hkw, fieldAt_of_words h (by decide) hkw, fieldAt_of_words h (by decide) hkw, fieldAt_of_words h (by decide) hkw, fieldAt_of_words h (by decide) hkw, fieldAt_of_words h (by decide) hkw]
  rfl
end Go.Proofs.YtchbkceconlbkaaGreatDoor
