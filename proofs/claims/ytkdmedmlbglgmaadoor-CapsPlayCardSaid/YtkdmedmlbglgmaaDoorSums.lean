/- Amounts added by their groups: a map that is filled by adding, in whatever order; plain lists. -/
import Derived.Test.YtkdmedmlbglgmaaDoorMap
namespace Go.Proofs.YtkdmedmlbglgmaaDoor
open Go Go.RowKit
set_option linter.unusedSimpArgs false
set_option linter.unusedVariables false
set_option linter.unusedSectionVars false

section
variable {α : Type} [DecidableEq α]

def sumAll (l : List (α × Int)) : Int := (l.map (·.2)).sum
def sumBy (l : List (α × Int)) (x : α) : Int := sumAll (l.filter fun p => decide (p.1 = x))
def addM (m : List (α × Int)) (x : α) (v : Int) : List (α × Int) := mput m x ((mget m x).getD 0 + v)
def sumsOf (l : List (α × Int)) : List (α × Int) := l.foldl (fun m p => addM m p.1 p.2) []

omit [DecidableEq α] in
theorem sumAll_nil : sumAll ([] : List (α × Int)) = 0 := rfl
omit [DecidableEq α] in
theorem sumAll_cons (p : α × Int) (l : List (α × Int)) : sumAll (p :: l) = p.2 + sumAll l := by simp [sumAll]
omit [DecidableEq α] in
theorem sumAll_append (l l' : List (α × Int)) : sumAll (l ++ l') = sumAll l + sumAll l' := by simp [sumAll]
theorem sumAll_perm {l l' : List (α × Int)} (h : l.Perm l') : sumAll l = sumAll l' := by
  induction h with
  | nil => rfl
  | cons x _ ih => simp [sumAll_cons, ih]
  | swap x y l => simp only [sumAll_cons]; omega
  | trans _ _ h1 h2 => exact h1.trans h2
theorem sumBy_nil (x : α) : sumBy [] x = 0 := rfl
theorem sumBy_cons (p : α × Int) (l : List (α × Int)) (x : α) : sumBy (p :: l) x = (if p.1 = x then p.2 else 0) + sumBy l x := by
  unfold sumBy
  rw [List.filter_cons]
  by_cases h : p.1 = x
  · simp [h, sumAll_cons]
  · simp [h]
theorem sumBy_append (l l' : List (α × Int)) (x : α) : sumBy (l ++ l') x = sumBy l x + sumBy l' x := by
  simp [sumBy, List.filter_append, sumAll_append]
theorem sumBy_perm {l l' : List (α × Int)} (h : l.Perm l') (x : α) : sumBy l x = sumBy l' x := sumAll_perm (h.filter _)
theorem sumAll_nonneg {l : List (α × Int)} (h : ∀ p ∈ l, 0 ≤ p.2) : 0 ≤ sumAll l := by
  induction l with
  | nil => exact Int.le_refl _
  | cons p l ih =>
    rw [sumAll_cons]
    have h1 := h p (List.mem_cons_self ..)
    have h2 := ih fun q hq => h q (List.mem_cons_of_mem _ hq)
    omega
theorem sumBy_nonneg {l : List (α × Int)} (h : ∀ p ∈ l, 0 ≤ p.2) (x : α) : 0 ≤ sumBy l x := sumAll_nonneg fun p hp => h p (List.mem_filter.1 hp).1
theorem sumBy_le {l : List (α × Int)} (h : ∀ p ∈ l, 0 ≤ p.2) (x : α) : sumBy l x ≤ sumAll l := by
  induction l with
  | nil => exact Int.le_refl _
  | cons p l ih =>
    rw [sumAll_cons, sumBy_cons]
    have h1 := h p (List.mem_cons_self ..)
    have h2 := ih fun q hq => h q (List.mem_cons_of_mem _ hq)
    split <;> omega
theorem sumBy_none {l : List (α × Int)} {x : α} (h : x ∉ l.map (·.1)) : sumBy l x = 0 := by
  induction l with
  | nil => rfl
  | cons p l ih =>
    rw [sumBy_cons, ih (fun e => h (List.mem_cons_of_mem _ e)), if_neg (fun e => h (by rw [List.map_cons, e]; exact List.mem_cons_self ..))]
    rfl
theorem sumBy_prefix {l l' : List (α × Int)} (h : ∀ p ∈ l', 0 ≤ p.2) (x : α) : sumBy l x ≤ sumBy (l ++ l') x := by
  rw [sumBy_append]; have := sumBy_nonneg h x; omega

theorem sumsOf_nil : sumsOf ([] : List (α × Int)) = [] := rfl
theorem sumsOf_snoc (l : List (α × Int)) (p : α × Int) : sumsOf (l ++ [p]) = addM (sumsOf l) p.1 p.2 := by simp [sumsOf, List.foldl_append]

theorem snoc_ind {α : Type} {p : List α → Prop} (h0 : p []) (h1 : ∀ l x, p l → p (l ++ [x])) : ∀ l, p l := by
  intro l
  rw [← List.reverse_reverse l]
  induction l.reverse with
  | nil => exact h0
  | cons x l ih => rw [List.reverse_cons]; exact h1 _ _ ih

theorem sumsOf_get (l : List (α × Int)) : ∀ x, mget (sumsOf l) x = if x ∈ l.map (·.1) then some (sumBy l x) else none := by
  induction l using snoc_ind with
  | h0 => intro x; simp [sumsOf_nil, mget_nil]
  | h1 l p ih =>
    intro x
    have hm : x ∈ (l ++ [p]).map (·.1) ↔ (x ∈ l.map (·.1) ∨ x = p.1) := by rw [List.map_append, List.mem_append, List.map_singleton, List.mem_singleton]
    rw [sumsOf_snoc]
    unfold addM
    by_cases hx : x = p.1
    · subst hx
      rw [mget_mput_same, ih p.1, if_pos (hm.2 (.inr rfl)), sumBy_append, sumBy_cons, if_pos rfl, sumBy_nil]
      split
      · simp
      · rename_i h; rw [sumBy_none h]; simp
    · rw [mget_mput_other _ _ hx, ih x, sumBy_append, sumBy_cons, if_neg (show ¬ p.1 = x from fun e => hx e.symm), sumBy_nil]
      by_cases h : x ∈ l.map (·.1)
      · rw [if_pos h, if_pos (hm.2 (.inl h))]; simp
      · rw [if_neg h, if_neg (fun e => (hm.1 e).elim h hx)]
theorem sumsOf_getD (l : List (α × Int)) (x : α) : (mget (sumsOf l) x).getD 0 = sumBy l x := by
  rw [sumsOf_get]
  split
  · rfl
  · rename_i h; rw [sumBy_none h]; rfl
theorem sumsOf_nodup (l : List (α × Int)) : ((sumsOf l).map (·.1)).Nodup := by
  induction l using snoc_ind with
  | h0 => simp [sumsOf_nil]
  | h1 l p ih => rw [sumsOf_snoc]; exact mnodup_mput ih _ _

theorem mem_iff_mget {m : List (α × Int)} (h : (m.map (·.1)).Nodup) (p : α × Int) : p ∈ m ↔ mget m p.1 = some p.2 := ⟨fun hp => mget_of_mem h hp, fun hg => mget_mem hg⟩
theorem nodup_of_keys {m : List (α × Int)} (h : (m.map (·.1)).Nodup) : m.Nodup := (List.pairwise_map.1 h).imp fun hne e => hne (by rw [e])
theorem perm_of_mget {m m' : List (α × Int)} (h : (m.map (·.1)).Nodup) (h' : (m'.map (·.1)).Nodup) (e : ∀ x, mget m x = mget m' x) : m.Perm m' := by
  refine (List.perm_ext_iff_of_nodup (nodup_of_keys h) (nodup_of_keys h')).2 fun p => ?_
  rw [mem_iff_mget h, mem_iff_mget h', e]
theorem mget_perm {m m' : List (α × Int)} (h : (m.map (·.1)).Nodup) (p : m.Perm m') (x : α) : mget m x = mget m' x := by
  have h' : (m'.map (·.1)).Nodup := (p.map _).nodup_iff.1 h
  cases hg : mget m x with
  | some v => exact ((mem_iff_mget h' (x, v)).1 (p.subset (mget_mem hg))).symm
  | none =>
    cases hg' : mget m' x with
    | none => rfl
    | some v => rw [(mem_iff_mget h (x, v)).1 (p.symm.subset (mget_mem hg'))] at hg; cases hg
/-- The same groups, the same sums: the same map, but for the order. -/
theorem sumsOf_alike {l l' : List (α × Int)} (hk : ∀ x, x ∈ l.map (·.1) ↔ x ∈ l'.map (·.1)) (hs : ∀ x, sumBy l x = sumBy l' x) : (sumsOf l).Perm (sumsOf l') :=
  perm_of_mget (sumsOf_nodup l) (sumsOf_nodup l') fun x => by rw [sumsOf_get, sumsOf_get, hs x]; simp only [hk x]
theorem sumsOf_perm {l l' : List (α × Int)} (h : l.Perm l') : (sumsOf l).Perm (sumsOf l') :=
  sumsOf_alike (fun x => (h.map _).mem_iff) (fun x => sumBy_perm h x)
theorem sumsOf_mem {l : List (α × Int)} {p : α × Int} (h : p ∈ sumsOf l) : p.2 = sumBy l p.1 ∧ p.1 ∈ l.map (·.1) := by
  have := (mem_iff_mget (sumsOf_nodup l) p).1 h
  rw [sumsOf_get] at this
  split at this
  · rename_i h1; exact ⟨by injection this with this; exact this.symm, h1⟩
  · cases this
theorem sumsOf_nonneg {l : List (α × Int)} (h : ∀ p ∈ l, 0 ≤ p.2) : ∀ p ∈ sumsOf l, 0 ≤ p.2 := fun p hp => by rw [(sumsOf_mem hp).1]; exact sumBy_nonneg h _

theorem sumAll_mput (m : List (α × Int)) (h : (m.map (·.1)).Nodup) (x : α) (v : Int) : sumAll (addM m x v) = sumAll m + v := by
  unfold addM mput
  cases hg : mget m x with
  | none => simp [sumAll_append, sumAll_cons, sumAll_nil]
  | some u =>
    simp only [Option.isSome_some, if_true, Option.getD_some]
    have hm := mget_mem hg
    clear hg
    induction m with
    | nil => cases hm
    | cons p m ih =>
      obtain ⟨n1, n2⟩ := List.nodup_cons.1 h
      rw [List.map_cons, sumAll_cons, sumAll_cons]
      rcases List.mem_cons.1 hm with rfl | hm
      · simp only [if_true]
        have : m.map (fun p => if p.1 = x then (x, u + v) else p) = m := by
          refine (List.map_congr_left fun q hq => ?_).trans (List.map_id m)
          rw [if_neg (fun e => n1 (List.mem_map.2 ⟨q, hq, e⟩))]; rfl
        rw [this]; omega
      · have hx : p.1 ≠ x := fun e => n1 (show p.1 ∈ m.map (·.1) from by rw [e]; exact List.mem_map.2 ⟨_, hm, rfl⟩)
        rw [if_neg hx, ih n2 hm]; omega
theorem sumAll_sumsOf (l : List (α × Int)) : sumAll (sumsOf l) = sumAll l := by
  induction l using snoc_ind with
  | h0 => rfl
  | h1 l p ih => rw [sumsOf_snoc, sumAll_mput _ (sumsOf_nodup l), ih, sumAll_append, sumAll_cons, sumAll_nil]; omega

/-- What each group is turned into, by its own number and its own place. -/
def lvl (cap : α → Int → Int) (to : α → α) (S : List (α × Int)) : List (α × Int) := S.map fun p => (to p.1, cap p.1 p.2)
theorem lvl_perm {S S' : List (α × Int)} (cap : α → Int → Int) (to : α → α) (h : S.Perm S') : (lvl cap to S).Perm (lvl cap to S') := h.map _
theorem lvl_nonneg {S : List (α × Int)} {cap : α → Int → Int} (to : α → α) (hc : ∀ x v, 0 ≤ v → 0 ≤ cap x v) (h : ∀ p ∈ S, 0 ≤ p.2) : ∀ p ∈ lvl cap to S, 0 ≤ p.2 := by
  intro p hp
  obtain ⟨q, hq, rfl⟩ := List.mem_map.1 hp
  exact hc _ _ (h q hq)
theorem sumAll_lvl {S : List (α × Int)} {cap : α → Int → Int} (to : α → α) (hc : ∀ x v, cap x v ≤ v) : sumAll (lvl cap to S) ≤ sumAll S := by
  induction S with
  | nil => exact Int.le_refl _
  | cons p S ih =>
    have := hc p.1 p.2
    simp only [lvl, List.map_cons, sumAll_cons] at ih ⊢
    omega

/-- Some group's sum is above the greatest. -/
def overM (most : Int) (l : List (α × Int)) : Bool := l.any fun p => decide (most < sumBy l p.1)
theorem overM_false {most : Int} {l : List (α × Int)} (hm : 0 ≤ most) (h : overM most l = false) (x : α) : sumBy l x ≤ most := by
  by_cases hx : x ∈ l.map (·.1)
  · obtain ⟨p, hp, rfl⟩ := List.mem_map.1 hx
    have := List.any_eq_false.1 h p hp
    simp only [decide_eq_true_eq] at this
    omega
  · rw [sumBy_none hx]; exact hm
theorem overM_true {most : Int} {l : List (α × Int)} {x : α} (hm : 0 ≤ most) (h : most < sumBy l x) : overM most l = true := by
  cases ho : overM most l with
  | true => rfl
  | false => have := overM_false hm ho x; omega
theorem overM_perm {most : Int} {l l' : List (α × Int)} (h : l.Perm l') : overM most l = overM most l' := by
  rw [Bool.eq_iff_iff]
  simp only [overM, List.any_eq_true, decide_eq_true_eq]
  constructor
  · rintro ⟨p, hp, hs⟩; exact ⟨p, h.subset hp, by rw [← sumBy_perm h]; exact hs⟩
  · rintro ⟨p, hp, hs⟩; exact ⟨p, h.symm.subset hp, by rw [sumBy_perm h]; exact hs⟩
theorem overM_small {most : Int} {l : List (α × Int)} (hn : ∀ p ∈ l, 0 ≤ p.2) (h : sumAll l ≤ most) : overM most l = false := by
  cases ho : overM most l with
  | false => rfl
  | true =>
    obtain ⟨p, _, hp⟩ := List.any_eq_true.1 ho
    have := sumBy_le hn p.1
    simp only [decide_eq_true_eq] at hp
    omega
end
end Go.Proofs.YtkdmedmlbglgmaaDoor
