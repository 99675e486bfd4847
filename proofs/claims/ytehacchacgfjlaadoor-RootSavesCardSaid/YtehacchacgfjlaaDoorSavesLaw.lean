/- Roots saved one behind the other, the last one torn, and torn again: what is loaded. Plain lists. -/
import Derived.Test.YtehacchacgfjlaaDoorTearsLaw
import Derived.Test.YtehacchacgfjlaaDoorRoot6
namespace Go.Proofs.YtehacchacgfjlaaDoor
open Go.Maps
open Go Go.RowKit
set_option linter.unusedSimpArgs false
set_option linter.unusedVariables false

theorem secE_succ (e : Int) : secE (e + 1) ≠ secE e := by unfold secE; omega
theorem secE_two (e : Int) : secE (e + 1 + 1) = secE e := by unfold secE; omega
theorem sec_cover (e i : Int) (h0 : 0 ≤ i) (h1 : i < 2) : i = secE e ∨ i = secE (e + 1) := by unfold secE; omega
/-- The sectors behind n saves. -/
def savF (L : Nat → List Int) : Nat → Int → List Int
  | 0 => zeroS
  | k + 1 => rdS (savF L k) (mput [] (secE ((k + 1 : Nat) : Int)) (rootL ((k + 1 : Nat) : Int) (L (k + 1))))
def oldR (L : Nat → List Int) (k : Nat) : List Int := if k = 0 then List.replicate 128 0 else rootL (k : Int) (L k)
theorem savF_succ (L : Nat → List Int) (k : Nat) (i : Int) : savF L (k + 1) i = if i = secE ((k + 1 : Nat) : Int) then rootL ((k + 1 : Nat) : Int) (L (k + 1)) else savF L k i := by
  show rdS (savF L k) (mput [] _ _) i = _
  rw [rdS_put, rdS_nil]
theorem savF_at (L : Nat → List Int) (n : Nat) : savF L n (secE (n : Int)) = oldR L n ∧ savF L n (secE ((n : Int) + 1)) = oldR L (n - 1) := by
  induction n with
  | zero => exact ⟨rfl, rfl⟩
  | succ k ih =>
    have e1 : ((k + 1 : Nat) : Int) = (k : Int) + 1 := by omega
    constructor
    · rw [savF_succ, if_pos rfl]; unfold oldR; rw [if_neg (by omega)]
    · rw [savF_succ, if_neg (by rw [e1]; exact secE_succ _), e1, secE_two, ih.1, show k + 1 - 1 = k by omega]
/-- What a fall leaves of x over f's bytes. -/
def after1 (x old : List Int) (qs : List Int) : List Int :=
  match qs with
  | [] => old
  | q :: _ => tear x old q
/-- The sectors behind a fall with one pending. -/
def tornF (f : Int → List Int) (e : Int) (x : List Int) (qs : List Int) : Int → List Int := crashTo (rdS zeroS (mput [] (secE e) x)) (keysA (mput [] (secE e) x)) qs f
theorem tornF_at (f : Int → List Int) (e : Int) (x : List Int) (qs : List Int) (i : Int) : tornF f e x qs i = if i = secE e then after1 x (f i) qs else f i := by
  unfold tornF
  have e1 : keysA (mput ([] : PenL) (secE e) x) = [secE e] := by simp [keysA, mput, mget, List.mergeSort]
  have e2 : rdS zeroS (mput [] (secE e) x) (secE e) = x := by rw [rdS_put, if_pos rfl]
  rw [e1]
  cases qs with
  | nil => simp [crashTo, after1]
  | cons q qs =>
    simp only [crashTo, crashTo_none, e2, after1]
    by_cases h : i = secE e
    · rw [if_pos h, if_pos h, h]
    · rw [if_neg h, if_neg h]
theorem tear_eq (x old : List Int) (q : Int) : tear x old q = x ∨ tear x old q = old ∨ ∃ m, m ≤ 128 ∧ tear x old q = tornL x old m := by
  unfold tear
  have h1 := Int.emod_nonneg (q / 3) (show (129 : Int) ≠ 0 by decide)
  have h2 := Int.emod_lt_of_pos (q / 3) (show (0 : Int) < 129 by decide)
  split
  · exact .inl rfl
  · split
    · exact .inr (.inr ⟨_, by omega, rfl⟩)
    · exact .inr (.inl rfl)
theorem oldR_length (L : Nat → List Int) (k : Nat) : (oldR L k).length = 128 := by
  unfold oldR; split
  · simp
  · exact rootL_length _ _
section
variable {L : Nat → List Int} (hL : ∀ k : Nat, 1 ≤ k → k ≤ 30 → rootOk (k : Int) (L k))
include hL
theorem readL_oldR (k : Nat) (hk : k ≤ 30) : readL (oldR L k) = if k = 0 then none else some ((k : Int), L k) := by
  unfold oldR
  by_cases h : k = 0
  · rw [if_pos h, if_pos h]; exact readL_zero
  · rw [if_neg h, if_neg h]; exact readL_rootL _ _ (hL k (by omega) hk)
/-- What is read of a new root torn over an old one. -/
theorem read_after {e : Int} {x : List Int} (hx : rootOk e x) (k : Nat) (hk : k ≤ 30) (hne : (k : Int) ≠ e) (qs : List Int) :
    readL (after1 (rootL e x) (oldR L k) qs) = some (e, x) ∨ readL (after1 (rootL e x) (oldR L k) qs) = readL (oldR L k) ∨ readL (after1 (rootL e x) (oldR L k) qs) = none := by
  cases qs with
  | nil => exact .inr (.inl rfl)
  | cons q qs =>
    simp only [after1]
    rcases tear_eq (rootL e x) (oldR L k) q with h | h | ⟨m, hm, h⟩
    · rw [h]; exact .inl (readL_rootL e x hx)
    · rw [h]; exact .inr (.inl rfl)
    · rw [h]
      cases hr : readL (tornL (rootL e x) (oldR L k) m) with
      | none => exact .inr (.inr rfl)
      | some r =>
        by_cases hk0 : k = 0
        · have : oldR L k = List.replicate 128 0 := by unfold oldR; rw [if_pos hk0]
          rw [this] at hr
          rw [torn_zero hx hm hr]
          exact .inl rfl
        · have ho : oldR L k = rootL (k : Int) (L k) := by unfold oldR; rw [if_neg hk0]
          rw [ho] at hr
          rcases torn_root (hL k (by omega) hk) hx hne hm hr with h | h
          · rw [h]; exact .inl rfl
          · rw [h, ho, readL_rootL _ _ (hL k (by omega) hk)]; exact .inr (.inl rfl)
end
/-- The better of two. -/
def best2 (A B : Option (Int × List Int)) : Int × List Int :=
  match A, B with
  | none, none => (0, [])
  | some a, none => a
  | none, some b => b
  | some a, some b => if a.1 < b.1 then b else a
theorem best2_comm {A B : Option (Int × List Int)} (h : ∀ a b, A = some a → B = some b → a.1 ≠ b.1) : best2 A B = best2 B A := by
  cases A with
  | none => cases B <;> rfl
  | some a =>
    cases B with
    | none => rfl
    | some b =>
      have := h a b rfl rfl
      unfold best2
      simp only
      by_cases h1 : a.1 < b.1
      · rw [if_pos h1, if_neg (by omega)]
      · rw [if_neg h1, if_pos (by omega)]
theorem loadL_best2 (f : Int → List Int) : loadL f = best2 (readL (f 0)) (readL (f 1)) := by
  unfold loadL
  cases h0 : readL (f 0) with
  | none =>
    cases h1 : readL (f 1) with
    | none => rfl
    | some b =>
      have := (readL_some (e := b.1) (l := b.2) h1).1.1.1
      unfold bestOf best2
      simp only
      rw [if_pos (by omega)]
  | some a =>
    have ha := (readL_some (e := a.1) (l := a.2) h0).1.1.1
    cases h1 : readL (f 1) with
    | none =>
      unfold bestOf best2
      simp only
      rw [if_pos (by omega)]
    | some b =>
      unfold bestOf best2
      simp only
      rw [if_pos (show (0 : Int) < a.1 by omega)]
theorem loadL_par (n : Int) (f : Int → List Int) (h : ∀ a b, readL (f (secE n)) = some a → readL (f (secE (n + 1))) = some b → a.1 ≠ b.1) : loadL f = best2 (readL (f (secE n))) (readL (f (secE (n + 1)))) := by
  rw [loadL_best2]
  have h1 := secE_range n
  by_cases h0 : secE n = 0
  · have e1 : secE (n + 1) = 1 := by unfold secE at h0 ⊢; omega
    rw [h0, e1]
  · have e0 : secE n = 1 := by omega
    have e1 : secE (n + 1) = 0 := by unfold secE at h0 ⊢; omega
    rw [e0, e1] at h ⊢
    exact (best2_comm h).symm
/-- What is there where the n-th save was the last one that held. -/
def baseR (L : Nat → List Int) (n : Nat) : Int × List Int := if n = 0 then (0, []) else ((n : Int), L n)
theorem best2_base {L : Nat → List Int} (hL : ∀ k : Nat, 1 ≤ k → k ≤ 30 → rootOk (k : Int) (L k)) (n : Nat) (hn : n ≤ 29) (B : Option (Int × List Int)) (hB : B = none ∨ B = readL (oldR L (n - 1))) : best2 (readL (oldR L n)) B = baseR L n ∧ ∀ a b, readL (oldR L n) = some a → B = some b → a.1 ≠ b.1 := by
  rw [readL_oldR hL n (by omega)]
  unfold baseR
  rcases hB with rfl | rfl
  · constructor
    · by_cases h : n = 0
      · rw [if_pos h, if_pos h]; rfl
      · rw [if_neg h, if_neg h]; rfl
    · intro a b _ h; cases h
  · rw [readL_oldR hL (n - 1) (by omega)]
    by_cases h : n = 0
    · subst h
      exact ⟨rfl, fun a b h _ => by simp at h⟩
    · rw [if_neg h, if_neg h]
      by_cases h1 : n - 1 = 0
      · rw [if_pos h1]
        exact ⟨rfl, fun a b _ h => by cases h⟩
      · rw [if_neg h1]
        refine ⟨?_, fun a b ha hb => ?_⟩
        · unfold best2
          simp only
          rw [if_neg (by omega)]
        · cases ha; cases hb
          simp only
          omega
section
variable {L : Nat → List Int} (hL : ∀ k : Nat, 1 ≤ k → k ≤ 30 → rootOk (k : Int) (L k))
include hL
/-- Nothing was written. -/
theorem load_sav (n : Nat) (hn : n ≤ 29) : loadL (savF L n) = baseR L n := by
  have h := best2_base hL n hn (readL (savF L n (secE ((n : Int) + 1)))) (.inr (by rw [(savF_at L n).2]))
  rw [loadL_par (n : Int) _ (by rw [(savF_at L n).1]; exact h.2), (savF_at L n).1]
  exact h.1
/-- A root torn over what was there: the new one, or what was there. -/
theorem load_over (n : Nat) (hn : n ≤ 20) {Z : List Int} (hok : rootOk ((n : Int) + 1) Z) (qs : List Int) (f : Int → List Int) (e0 : f (secE (n : Int)) = oldR L n) (e1 : f (secE ((n : Int) + 1)) = after1 (rootL ((n : Int) + 1) Z) (oldR L (n - 1)) qs) :
    (readL (f (secE ((n : Int) + 1))) = some ((n : Int) + 1, Z) ∧ loadL f = ((n : Int) + 1, Z)) ∨ loadL f = baseR L n := by
  rcases read_after hL hok (n - 1) (by omega) (by omega) qs with h | h
  · refine .inl ⟨by rw [e1]; exact h, ?_⟩
    have hb : best2 (readL (oldR L n)) (some ((n : Int) + 1, Z)) = ((n : Int) + 1, Z) ∧ ∀ a b, readL (oldR L n) = some a → some ((n : Int) + 1, Z) = some b → a.1 ≠ b.1 := by
      rw [readL_oldR hL n (by omega)]
      by_cases h0 : n = 0
      · rw [if_pos h0]; exact ⟨rfl, fun a b h _ => by cases h⟩
      · rw [if_neg h0]
        refine ⟨?_, fun a b ha hb => ?_⟩
        · unfold best2
          simp only
          rw [if_pos (by omega)]
        · cases ha; cases hb
          simp only
          omega
    rw [loadL_par (n : Int) _ (by rw [e0, e1, h]; exact hb.2), e0, e1, h]
    exact hb.1
  · have h' : readL (after1 (rootL ((n : Int) + 1) Z) (oldR L (n - 1)) qs) = none ∨ readL (after1 (rootL ((n : Int) + 1) Z) (oldR L (n - 1)) qs) = readL (oldR L (n - 1)) := h.symm
    have hb := best2_base hL n (by omega) _ h'
    refine .inr ?_
    rw [loadL_par (n : Int) _ (by rw [e0, e1]; exact hb.2), e0, e1]
    exact hb.1
end
/-- The same picks again: as if the first write had not been. -/
theorem after_after (N A old : List Int) (hA : A.length = 128) (qs : List Int) : after1 N (after1 A old qs) qs = after1 N old qs := by
  cases qs with
  | nil => rfl
  | cons q qs =>
    simp only [after1]
    unfold tear
    have h1 := Int.emod_nonneg (q / 3) (show (129 : Int) ≠ 0 by decide)
    have h2 := Int.emod_lt_of_pos (q / 3) (show (0 : Int) < 129 by decide)
    by_cases e1 : q % 3 = 1
    · rw [if_pos e1, if_pos e1]
    · rw [if_neg e1, if_neg e1, if_neg e1]
      by_cases e2 : q % 3 = 2
      · rw [if_pos e2, if_pos e2, if_pos e2, List.drop_append_of_le_length (by rw [List.length_take]; omega), List.drop_eq_nil_of_le (by rw [List.length_take]; omega), List.nil_append]
      · rw [if_neg e2, if_neg e2, if_neg e2]
theorem after1_bytes {x old : List Int} (hx : isBytes x) (ho : isBytes old) (qs : List Int) : isBytes (after1 x old qs) := by
  cases qs with
  | nil => exact ho
  | cons q qs =>
    simp only [after1]
    unfold tear
    split
    · exact hx
    · split
      · intro z hz
        rcases List.mem_append.1 hz with h | h
        · exact hx z (List.mem_of_mem_take h)
        · exact ho z (List.mem_of_mem_drop h)
      · exact ho
theorem tornF_bytes {f : Int → List Int} {e : Int} {x : List Int} {qs : List Int} (hf : ∀ i, isBytes (f i)) (hx : isBytes x) (i : Int) : isBytes (tornF f e x qs i) := by
  rw [tornF_at]
  split
  · exact after1_bytes hx (hf i) qs
  · exact hf i
theorem savF_bytes {L : Nat → List Int} (hL : ∀ k, (L k).length ≤ 255) (n : Nat) (i : Int) : isBytes (savF L n i) := by
  induction n with
  | zero => show isBytes (zeroS i); unfold zeroS; intro x hx; rw [List.eq_of_mem_replicate hx]; decide
  | succ k ih =>
    rw [savF_succ]
    split
    · exact rootL_bytes _ _ (hL _)
    · exact ih
section
variable {L : Nat → List Int} (hL : ∀ k : Nat, 1 ≤ k → k ≤ 30 → rootOk (k : Int) (L k))
include hL
/-- Behind the first fall: the new root r (n + 1), or what was there. -/
def Stage1 (L : Nat → List Int) (n : Nat) (qs : List Int) (f : Int → List Int) (r : Int × List Int) : Prop :=
  loadL f = r ∧ f (secE (n : Int)) = oldR L n ∧
  ((r = ((n : Int) + 1, L (n + 1)) ∧ readL (f (secE ((n : Int) + 1))) = some ((n : Int) + 1, L (n + 1))) ∨
   (r = baseR L n ∧ ∀ N, after1 N (f (secE ((n : Int) + 1))) qs = after1 N (oldR L (n - 1)) qs))
theorem stage1_none (n : Nat) (hn : n ≤ 20) (qs : List Int) : Stage1 L n qs (savF L n) (baseR L n) :=
  ⟨load_sav hL n (by omega), (savF_at L n).1, .inr ⟨rfl, fun N => by rw [(savF_at L n).2]⟩⟩
theorem stage1_torn (n : Nat) (hn : n ≤ 20) (qs : List Int) : ∃ r, Stage1 L n qs (tornF (savF L n) ((n : Int) + 1) (rootL ((n : Int) + 1) (L (n + 1))) qs) r := by
  have hok : rootOk ((n : Int) + 1) (L (n + 1)) := by have := hL (n + 1) (by omega) (by omega); rwa [show ((n + 1 : Nat) : Int) = (n : Int) + 1 by omega] at this
  have e1 : tornF (savF L n) ((n : Int) + 1) (rootL ((n : Int) + 1) (L (n + 1))) qs (secE ((n : Int) + 1)) = after1 (rootL ((n : Int) + 1) (L (n + 1))) (oldR L (n - 1)) qs := by
    rw [tornF_at, if_pos rfl, (savF_at L n).2]
  have e0 : tornF (savF L n) ((n : Int) + 1) (rootL ((n : Int) + 1) (L (n + 1))) qs (secE (n : Int)) = oldR L n := by
    rw [tornF_at, if_neg (fun h => secE_succ (n : Int) h.symm), (savF_at L n).1]
  rcases load_over hL n hn hok qs _ e0 e1 with ⟨h1, h2⟩ | h
  · exact ⟨_, h2, e0, .inl ⟨rfl, h1⟩⟩
  · exact ⟨_, h, e0, .inr ⟨rfl, fun N => by rw [e1, after_after _ _ _ (rootL_length _ _)]⟩⟩
/-- Behind the second fall: the next root, or what was there. -/
theorem stage2 (n : Nat) (hn : n ≤ 20) (qs : List Int) {f : Int → List Int} {r : Int × List Int} (h : Stage1 L n qs f r) :
    loadL (tornF f (r.1 + 1) (rootL (r.1 + 1) [1, 2, 3]) qs) = (r.1 + 1, [1, 2, 3]) ∨ loadL (tornF f (r.1 + 1) (rootL (r.1 + 1) [1, 2, 3]) qs) = r := by
  obtain ⟨h1, h2, ⟨hr, h3⟩ | ⟨hr, h3⟩⟩ := h
  · subst hr
    simp only
    have hok : rootOk ((n : Int) + 1 + 1) [1, 2, 3] := ⟨⟨by omega, by omega⟩, by intro z hz; simp at hz; omega, by simp⟩
    have e0 : tornF f ((n : Int) + 1 + 1) (rootL ((n : Int) + 1 + 1) [1, 2, 3]) qs (secE (n : Int)) = after1 (rootL ((n : Int) + 1 + 1) [1, 2, 3]) (oldR L n) qs := by
      rw [tornF_at, if_pos (secE_two _).symm, h2]
    have e1 : tornF f ((n : Int) + 1 + 1) (rootL ((n : Int) + 1 + 1) [1, 2, 3]) qs (secE ((n : Int) + 1)) = f (secE ((n : Int) + 1)) := by
      rw [tornF_at, if_neg (fun h => secE_succ ((n : Int) + 1) h.symm)]
    have key : ∀ A, (A = some ((n : Int) + 1 + 1, [1, 2, 3]) ∨ A = readL (oldR L n) ∨ A = none) → (best2 A (some ((n : Int) + 1, L (n + 1))) = ((n : Int) + 1 + 1, [1, 2, 3]) ∨ best2 A (some ((n : Int) + 1, L (n + 1))) = ((n : Int) + 1, L (n + 1))) ∧ ∀ a b, A = some a → some ((n : Int) + 1, L (n + 1)) = some b → a.1 ≠ b.1 := by
      intro A hA
      rcases hA with rfl | rfl | rfl
      · refine ⟨.inl ?_, fun a b ha hb => ?_⟩
        · unfold best2; simp only; rw [if_neg (by omega)]
        · cases ha; cases hb; simp only; omega
      · rw [readL_oldR hL n (by omega)]
        by_cases h0 : n = 0
        · rw [if_pos h0]; exact ⟨.inr rfl, fun a b h _ => by cases h⟩
        · rw [if_neg h0]
          refine ⟨.inr ?_, fun a b ha hb => ?_⟩
          · unfold best2; simp only; rw [if_pos (by omega)]
          · cases ha; cases hb; simp only; omega
      · exact ⟨.inr rfl, fun a b h _ => by cases h⟩
    have hk := key _ (read_after hL hok n (by omega) (by omega) qs)
    rw [loadL_par (n : Int) _ (by rw [e0, e1, h3]; exact hk.2), e0, e1, h3]
    exact hk.1
  · have hb1 : r.1 = (n : Int) := by
      rw [hr]; unfold baseR; split
      · rename_i h0; rw [h0]; rfl
      · rfl
    have hok : rootOk ((n : Int) + 1) [1, 2, 3] := ⟨⟨by omega, by omega⟩, by intro z hz; simp at hz; omega, by simp⟩
    rw [hb1]
    have e0 : tornF f ((n : Int) + 1) (rootL ((n : Int) + 1) [1, 2, 3]) qs (secE (n : Int)) = oldR L n := by
      rw [tornF_at, if_neg (fun h => secE_succ (n : Int) h.symm), h2]
    have e1 : tornF f ((n : Int) + 1) (rootL ((n : Int) + 1) [1, 2, 3]) qs (secE ((n : Int) + 1)) = after1 (rootL ((n : Int) + 1) [1, 2, 3]) (oldR L (n - 1)) qs := by
      rw [tornF_at, if_pos rfl, h3]
    rcases load_over hL n hn hok qs _ e0 e1 with ⟨_, h⟩ | h
    · exact .inl h
    · exact .inr (h.trans hr.symm)
end
end Go.Proofs.YtehacchacgfjlaaDoor
