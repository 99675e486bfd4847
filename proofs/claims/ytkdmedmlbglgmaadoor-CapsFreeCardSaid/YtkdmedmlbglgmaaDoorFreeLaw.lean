/- One limit, one line (plain law of CapsFree). -/
import Derived.Test.YtkdmedmlbglgmaaDoorCapsSet
import Derived.Test.YtkdmedmlbglgmaaDoorCapsSum
namespace Go.Proofs.YtkdmedmlbglgmaaDoor
open Go Go.RowKit
set_option linter.unusedSimpArgs false
set_option linter.unusedVariables false

theorem free_none (i v : Int) (hv : 0 ≤ v ∧ v < 1000000) : capR [] [((2, 2, i), v)] = .ok v := by
  have h1 : ∀ p ∈ [(((2, 2, i) : G), v)], 0 ≤ p.2 := by simp; omega
  unfold capR
  rw [capSum_small _ h1 (by simp [sumAll, MAXM]; omega)]
  simp only [Except.ok.injEq]
  simp [lev3, lev2, lev1, lvl, sumsOf, addM, mput, mget, capI, capM, capC, toI, toM, toC, lim, sumAll, cut]
theorem free_one (x v : Int) (hx : 0 < x) (hv : 0 ≤ v ∧ v < 1000000) : capR [((3, 3), x)] [((2, 2, 3), v)] = .ok (min v x) := by
  have h1 : ∀ p ∈ [(((2, 2, 3) : G), v)], 0 ≤ p.2 := by simp; omega
  unfold capR
  rw [capSum_small _ h1 (by simp [sumAll, MAXM]; omega)]
  simp only [Except.ok.injEq]
  simp [lev3, lev2, lev1, lvl, sumsOf, addM, mput, mget, capI, capM, capC, toI, toM, toC, lim, sumAll, cut, hx]
theorem free_two (x v : Int) (hx : 0 < x) (hv : 0 ≤ v ∧ v < 1000000) : capR [((3, 3), x)] [((2, 2, 0), v)] = .ok v := by
  have h1 : ∀ p ∈ [(((2, 2, 0) : G), v)], 0 ≤ p.2 := by simp; omega
  unfold capR
  rw [capSum_small _ h1 (by simp [sumAll, MAXM]; omega)]
  simp only [Except.ok.injEq]
  simp [lev3, lev2, lev1, lvl, sumsOf, addM, mput, mget, capI, capM, capC, toI, toM, toC, lim, sumAll, cut]
theorem free_set (x : Int) : lset [] 3 3 x = if limOK 3 3 x = true ∧ 0 < x then [((3, 3), x)] else [] := by
  unfold lset
  cases h : limOK 3 3 x with
  | false => simp
  | true =>
    have h2 := h
    simp only [limOK, decide_eq_true_eq] at h2
    by_cases h0 : x = 0
    · simp [h0, mput, mget, mdel]
    · rw [if_pos (show true = true ∧ 0 < x from ⟨rfl, by omega⟩)]
      simp [h0, mput, mget]
theorem free_off (x : Int) : lset (if limOK 3 3 x = true ∧ 0 < x then [((3, 3), x)] else []) 3 3 0 = [] := by
  have h0 : limOK 3 3 0 = true := by decide
  unfold lset
  rw [if_pos h0, if_pos rfl]
  by_cases h : limOK 3 3 x = true ∧ 0 < x
  · rw [if_pos h]; simp [mput, mget, mdel]
  · rw [if_neg h]; simp [mput, mget, mdel]
theorem free_zero (m : Lims) (x : Int) : lset m 3 0 x = m := by
  unfold lset
  rw [show limOK 3 0 x = false from decide_eq_false (by omega)]
  rfl
end Go.Proofs.YtkdmedmlbglgmaaDoor
