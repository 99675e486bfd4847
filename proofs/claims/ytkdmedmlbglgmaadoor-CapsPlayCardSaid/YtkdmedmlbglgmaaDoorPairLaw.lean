/- Pairs in order: how many come ahead of one; the one at that place. No program in sight. -/
import Derived.Test.YtkdmedmlbglgmaaDoorCmpP
namespace Go.Proofs.YtkdmedmlbglgmaaDoor
open Go Go.RowKit
set_option linter.unusedSimpArgs false
set_option linter.unusedVariables false

/-- How many come ahead of (c, b). -/
def cntP (L : List (Int × Int)) (c b : Int) : Nat := (L.filter (fun x => decide (x.1 < c ∨ x.1 = c ∧ x.2 < b))).length
theorem cntP_perm {L M : List (Int × Int)} (h : L.Perm M) (c b : Int) : cntP L c b = cntP M c b := (h.filter _).length_eq
theorem cntP_cons (x : Int × Int) (L : List (Int × Int)) (c b : Int) : cntP (x :: L) c b = (if x.1 < c ∨ x.1 = c ∧ x.2 < b then 1 else 0) + cntP L c b := by
  unfold cntP
  by_cases h : x.1 < c ∨ x.1 = c ∧ x.2 < b
  · rw [List.filter_cons, if_pos (by simpa using h), if_pos h]; simp; omega
  · rw [List.filter_cons, if_neg (by simpa using h), if_neg h]; simp
theorem cntP_succ : ∀ {L : List (Int × Int)}, L.Nodup → ∀ c b : Int, cntP L c (b + 1) = cntP L c b + if (c, b) ∈ L then 1 else 0
  | [], _, c, b => by simp [cntP]
  | x :: L, hn, c, b => by
    obtain ⟨h1, h2⟩ := List.nodup_cons.1 hn
    have ih := cntP_succ h2 c b
    rw [cntP_cons, cntP_cons, ih]
    by_cases e : x = (c, b)
    · subst e
      rw [if_neg h1, if_pos (by simp; omega), if_neg (by simp), if_pos (by simp)]
      omega
    · have e' : ¬ (x.1 = c ∧ x.2 = b) := fun h => e (Prod.ext h.1 h.2)
      have e2 : ((c, b) ∈ x :: L) ↔ (c, b) ∈ L := by
        rw [List.mem_cons]
        exact ⟨fun h => h.resolve_left (fun h' => e h'.symm), .inr⟩
      have e3 : (x.1 < c ∨ x.1 = c ∧ x.2 < b + 1) ↔ (x.1 < c ∨ x.1 = c ∧ x.2 < b) := by omega
      simp only [e2, e3]
      omega
theorem cntP_row {L : List (Int × Int)} {lo hi : Int} (hb : ∀ x ∈ L, lo ≤ x.2 ∧ x.2 < hi) (c : Int) : cntP L (c + 1) lo = cntP L c hi := by
  unfold cntP
  congr 1
  refine List.filter_congr fun x hx => ?_
  have := hb x hx
  exact decide_eq_decide.2 (by omega)
theorem cntP_start {L : List (Int × Int)} {c lo : Int} (hb : ∀ x ∈ L, c ≤ x.1 ∧ lo ≤ x.2) : cntP L c lo = 0 := by
  unfold cntP
  rw [List.length_eq_zero_iff, List.filter_eq_nil_iff]
  intro x hx
  have := hb x hx
  simp
  omega
theorem cntP_end {L : List (Int × Int)} {c lo : Int} (hb : ∀ x ∈ L, x.1 < c) : cntP L c lo = L.length := by
  unfold cntP
  rw [List.filter_eq_self.2 (fun x hx => by have := hb x hx; simp; omega)]
theorem cntP_at : ∀ {L : List (Int × Int)}, L.Pairwise (fun a b => leP a b = true) → L.Nodup → ∀ {c b : Int}, (c, b) ∈ L → L[cntP L c b]? = some (c, b)
  | [], _, _, c, b, h => by cases h
  | x :: L, hs, hn, c, b, h => by
    obtain ⟨s1, s2⟩ := List.pairwise_cons.1 hs
    obtain ⟨h1, h2⟩ := List.nodup_cons.1 hn
    rw [cntP_cons]
    by_cases e : x = (c, b)
    · subst e
      have h0 : cntP L c b = 0 := by
        unfold cntP
        rw [List.length_eq_zero_iff, List.filter_eq_nil_iff]
        intro y hy
        have := s1 y hy
        simp only [leP, decide_eq_true_eq] at this
        simp
        omega
      rw [if_neg (by simp), h0]
      rfl
    · have hm : (c, b) ∈ L := (List.mem_cons.1 h).resolve_left (fun h' => e h'.symm)
      have := s1 _ hm
      simp only [leP, decide_eq_true_eq] at this
      have hlt : x.1 < c ∨ x.1 = c ∧ x.2 < b := by
        have e' : ¬ (x.1 = c ∧ x.2 = b) := fun h => e (Prod.ext h.1 h.2)
        omega
      rw [if_pos hlt, Nat.add_comm, List.getElem?_cons_succ]
      exact cntP_at s2 h2 hm
/-- The key that comes next. -/
theorem sortP_next {L : List (Int × Int)} (hn : L.Nodup) {c b : Int} (h : (c, b) ∈ L) : (sortP L)[cntP L c b]? = some (c, b) := by
  rw [← cntP_perm (sortP_is L) c b]
  exact cntP_at (sortP_pairwise L) ((sortP_is L).nodup_iff.2 hn) ((sortP_is L).mem_iff.2 h)
end Go.Proofs.YtkdmedmlbglgmaaDoor
