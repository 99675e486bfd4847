/- What counts of lines, as loops over classes, currencies, issuers have it (plain law of CapsPlay). -/
import Derived.Test.YtkdmedmlbglgmaaDoorCapsLaw
namespace Go.Proofs.YtkdmedmlbglgmaaDoor
open Go Go.RowKit
set_option linter.unusedSimpArgs false
set_option linter.unusedVariables false

theorem overM_false_of {α : Type} [DecidableEq α] {most : Int} {l : List (α × Int)} (h : ∀ p ∈ l, sumBy l p.1 ≤ most) : overM most l = false := by
  unfold overM
  rw [List.any_eq_false]
  intro p hp
  have := h p hp
  simp
  omega
structure GoodM (m : Lims) (f : G → Int) (c mo : Int) : Prop where
  grp : ∀ i ∈ rI, f (c, mo, i) ≤ MAXM
  one : F1 m f c mo ≤ MAXM
structure GoodC (m : Lims) (f : G → Int) (c : Int) : Prop where
  cur : ∀ mo ∈ rM, GoodM m f c mo
  two : F2 m f c ≤ MAXM
structure GoodA (m : Lims) (f : G → Int) : Prop where
  cls : ∀ c ∈ rM, GoodC m f c
  three : F3 m f ≤ MAXM
theorem step_lev1 (m : Lims) (L : List (G × Int)) : stepV (capI m) toI (sumsOf L) = if overM MAXM (lev1 m L) then none else some (sumsOf (lev1 m L)) := rfl
theorem step_lev2 (m : Lims) (L : List (G × Int)) : stepV (capM m) toM (sumsOf (lev1 m L)) = if overM MAXM (lev2 m L) then none else some (sumsOf (lev2 m L)) := rfl
theorem step_lev3 (m : Lims) (L : List (G × Int)) : stepV (capC m) toC (sumsOf (lev2 m L)) = if overM MAXM (lev3 m L) then none else some (sumsOf (lev3 m L)) := rfl
theorem capSum_levels (m : Lims) (L : List (G × Int)) : capSum m L = if overM MAXM L then none else if overM MAXM (lev1 m L) then none else if overM MAXM (lev2 m L) then none else if overM MAXM (lev3 m L) then none else some (sumAll (lev3 m L)) := by
  unfold capSum capS
  rw [step_lev1]
  cases overM MAXM L with
  | true => rfl
  | false =>
    cases overM MAXM (lev1 m L) with
    | true => rfl
    | false =>
      simp only [Bool.false_eq_true, if_false, Option.bind_some]
      rw [step_lev2]
      cases overM MAXM (lev2 m L) with
      | true => rfl
      | false =>
        simp only [Bool.false_eq_true, if_false, Option.bind_some]
        rw [step_lev3]
        cases overM MAXM (lev3 m L) with
        | true => rfl
        | false =>
          simp only [Bool.false_eq_true, if_false, Option.map_some, sumsOf_getD, lev3_sum]
theorem lev3_key {m : Lims} {L : List (G × Int)} {x : G} (hx : x ∈ (lev3 m L).map (·.1)) : x = (0, 0, 0) := by
  obtain ⟨p, hp, rfl⟩ := List.mem_map.1 hx
  obtain ⟨q, hq, rfl⟩ := List.mem_map.1 hp
  rfl
theorem capSum_good {m : Lims} {L : List (G × Int)} (h : ∀ p ∈ L, fitsL p = true) (hg : GoodA m (sumBy L)) : capSum m L = some (F3 m (sumBy L)) := by
  have o0 : overM MAXM L = false := overM_false_of fun p hp => by
    obtain ⟨h1, h2, h3⟩ := fits_key h (List.mem_map.2 ⟨p, hp, rfl⟩)
    exact ((hg.cls _ h1).cur _ h2).grp _ h3
  have o1 : overM MAXM (lev1 m L) = false := overM_false_of fun p hp => by
    obtain ⟨h1, h2, h3⟩ := lev1_key h (List.mem_map.2 ⟨p, hp, rfl⟩)
    obtain ⟨⟨c, mo, i⟩, v⟩ := p
    simp only at h1 h2 h3 ⊢
    subst h3
    rw [lev1_at m h]
    exact ((hg.cls _ h1).cur _ h2).one
  have o2 : overM MAXM (lev2 m L) = false := overM_false_of fun p hp => by
    obtain ⟨h1, h2, h3⟩ := lev2_key h (List.mem_map.2 ⟨p, hp, rfl⟩)
    obtain ⟨⟨c, mo, i⟩, v⟩ := p
    simp only at h1 h2 h3 ⊢
    subst h2 h3
    rw [lev2_at m h]
    exact (hg.cls _ h1).two
  have o3 : overM MAXM (lev3 m L) = false := overM_false_of fun p hp => by
    rw [lev3_key (List.mem_map.2 ⟨p, hp, rfl⟩), lev3_sum, lev3_at m h]
    exact hg.three
  rw [capSum_levels, o0, o1, o2, o3, lev3_at m h]
  rfl
theorem capSum_bad0 {m : Lims} {L : List (G × Int)} {x : G} (hgt : MAXM < sumBy L x) : capSum m L = none := by
  rw [capSum_levels, overM_true (by decide) hgt]; rfl
theorem capSum_bad1 {m : Lims} {L : List (G × Int)} (h : ∀ p ∈ L, fitsL p = true) {c mo : Int} (hgt : MAXM < F1 m (sumBy L) c mo) : capSum m L = none := by
  rw [← lev1_at m h] at hgt
  rw [capSum_levels, overM_true (by decide) hgt]
  cases overM MAXM L <;> rfl
theorem capSum_bad2 {m : Lims} {L : List (G × Int)} (h : ∀ p ∈ L, fitsL p = true) {c : Int} (hgt : MAXM < F2 m (sumBy L) c) : capSum m L = none := by
  rw [← lev2_at m h] at hgt
  rw [capSum_levels, overM_true (by decide) hgt]
  cases overM MAXM L <;> cases overM MAXM (lev1 m L) <;> rfl
theorem capSum_bad3 {m : Lims} {L : List (G × Int)} (h : ∀ p ∈ L, fitsL p = true) (hgt : MAXM < F3 m (sumBy L)) : capSum m L = none := by
  rw [← lev3_at m h, ← lev3_sum] at hgt
  rw [capSum_levels, overM_true (by decide) hgt]
  cases overM MAXM L <;> cases overM MAXM (lev1 m L) <;> cases overM MAXM (lev2 m L) <;> rfl

/-- A sum over the first n. -/
def pre (n : Nat) (g : Nat → Int) : Int := ((List.range n).map g).sum
theorem pre_zero (g : Nat → Int) : pre 0 g = 0 := rfl
theorem pre_succ (n : Nat) (g : Nat → Int) : pre (n + 1) g = pre n g + g n := by simp [pre, List.range_succ]
theorem pre_mono {g : Nat → Int} (h : ∀ k, 0 ≤ g k) {a b : Nat} (hab : a ≤ b) : pre a g ≤ pre b g := by
  induction b with
  | zero => rw [Nat.le_zero.1 hab]; exact Int.le_refl _
  | succ b ih =>
    rcases Nat.lt_or_ge a (b + 1) with h1 | h1
    · rw [pre_succ]
      have := ih (by omega)
      have := h b
      omega
    · rw [show a = b + 1 by omega]; exact Int.le_refl _
theorem F1_pre (m : Lims) (f : G → Int) (c mo : Int) : F1 m f c mo = pre 33 (fun k => cut (lim m 3 k) (f (c, mo, k))) := by
  unfold F1 rI
  rw [sumD_map]
  rfl
theorem F2_pre (m : Lims) (f : G → Int) (c : Int) : F2 m f c = pre 6 (fun k => cut (lim m 2 ((k : Int) + 1)) (F1 m f c ((k : Int) + 1))) := by
  unfold F2 rM
  rw [sumD_map]
  rfl
theorem F3_pre (m : Lims) (f : G → Int) : F3 m f = pre 6 (fun k => cut (lim m 1 ((k : Int) + 1)) (F2 m f ((k : Int) + 1))) := by
  unfold F3 rM
  rw [sumD_map]
  rfl
theorem F1_nn (m : Lims) {L : List (G × Int)} (h : ∀ p ∈ L, fitsL p = true) (c mo : Int) : 0 ≤ F1 m (sumBy L) c mo := by
  rw [F1_pre, ← pre_zero (fun k => cut (lim m 3 k) (sumBy L (c, mo, k)))]
  exact pre_mono (fun k => cut_nonneg _ (sumBy_nonneg (fits_nonneg h) _)) (Nat.zero_le _)
theorem F2_nn (m : Lims) {L : List (G × Int)} (h : ∀ p ∈ L, fitsL p = true) (c : Int) : 0 ≤ F2 m (sumBy L) c := by
  rw [F2_pre, ← pre_zero (fun k => cut (lim m 2 ((k : Int) + 1)) (F1 m (sumBy L) c ((k : Int) + 1)))]
  exact pre_mono (fun k => cut_nonneg _ (F1_nn m h _ _)) (Nat.zero_le _)

/-- Where a loop stands: all well, and the sum so far; or something is too great. -/
def RS (m : Lims) (L : List (G × Int)) (Q : Prop) (t : Int) (B : Int) (ok : Bool) (n : Int) : Prop :=
  (ok = true ∧ Q ∧ n = t ∧ 0 ≤ n ∧ n ≤ MAXM) ∨ (ok = false ∧ capSum m L = none ∧ 0 ≤ n ∧ n ≤ B * MAXM)
/-- The lines' loop. -/
def RSline (m : Lims) (L : List (G × Int)) (x : G) (j : Nat) : Bool → Int → Prop := RS m L True (sumBy (L.take j) x) 2
theorem sumBy_take_le {L : List (G × Int)} (h : ∀ p ∈ L, fitsL p = true) (x : G) (j : Nat) : sumBy (L.take j) x ≤ sumBy L x := by
  have := sumBy_prefix (l := L.take j) (l' := L.drop j) (fun p hp => fits_nonneg h p (List.mem_of_mem_drop hp)) x
  rwa [List.take_append_drop] at this
theorem RSline.start (m : Lims) (L : List (G × Int)) (x : G) : RSline m L x 0 true 0 := .inl ⟨rfl, trivial, rfl, Int.le_refl _, by decide⟩
theorem RSline.skip {m : Lims} {L : List (G × Int)} {x : G} {j : Nat} {n : Int} (h : RSline m L x j true n) {q : G × Int} (hq : L[j]? = some q) (hne : q.1 ≠ x) : RSline m L x (j + 1) true n := by
  rcases h with ⟨_, _, rfl, h1, h2⟩ | ⟨h, _⟩
  · refine .inl ⟨rfl, trivial, ?_, h1, h2⟩
    obtain ⟨hl, rfl⟩ := List.getElem?_eq_some_iff.1 hq
    rw [List.take_succ_eq_append_getElem hl, sumBy_append, sumBy_cons, if_neg hne, sumBy_nil]; omega
  · cases h
theorem RSline.add {m : Lims} {L : List (G × Int)} (hf : ∀ p ∈ L, fitsL p = true) {x : G} {j : Nat} {n : Int} (h : RSline m L x j true n) {q : G × Int} (hq : L[j]? = some q) (he : q.1 = x) : RSline m L x (j + 1) (decide (n + q.2 ≤ MAXM)) (n + q.2) := by
  rcases h with ⟨_, _, hn, h1, h2⟩ | ⟨h, _⟩
  · have hq2 : 0 ≤ q.2 ∧ q.2 ≤ MAXM := by
      have := hf q (List.mem_of_getElem? hq)
      simp only [fitsL, decide_eq_true_eq] at this
      unfold MAXM
      omega
    obtain ⟨hl, rfl⟩ := List.getElem?_eq_some_iff.1 hq
    have ht : sumBy (L.take (j + 1)) x = n + L[j].2 := by
      rw [List.take_succ_eq_append_getElem hl, sumBy_append, sumBy_cons, if_pos he, sumBy_nil, hn]; omega
    by_cases hm : n + L[j].2 ≤ MAXM
    · rw [decide_eq_true hm]
      exact .inl ⟨rfl, trivial, ht.symm, by omega, hm⟩
    · rw [decide_eq_false hm]
      refine .inr ⟨rfl, capSum_bad0 (x := x) ?_, by omega, by unfold MAXM at *; omega⟩
      have := sumBy_take_le hf x (j + 1)
      omega
  · cases h
theorem RSline.dead {m : Lims} {L : List (G × Int)} {x : G} {j : Nat} {n : Int} (h : RSline m L x j false n) (j' : Nat) : RSline m L x j' false n := by
  rcases h with ⟨h, _⟩ | h
  · cases h
  · exact .inr h
theorem RSline.off {m : Lims} {L : List (G × Int)} (x : G) (j : Nat) (h : capSum m L = none) : RSline m L x j false 0 := .inr ⟨rfl, h, Int.le_refl _, by decide⟩
theorem RSline.bd {m : Lims} {L : List (G × Int)} {x : G} {j : Nat} {ok : Bool} {n : Int} (h : RSline m L x j ok n) : 0 ≤ n ∧ n ≤ 2 * MAXM := by
  rcases h with ⟨_, _, _, h1, h2⟩ | ⟨_, _, h1, h2⟩
  · exact ⟨h1, by unfold MAXM at *; omega⟩
  · exact ⟨h1, h2⟩
theorem RSline.full {m : Lims} {L : List (G × Int)} {x : G} {j : Nat} {ok : Bool} {n : Int} (h : RSline m L x j ok n) (hj : ok = true → j = L.length) : RSline m L x L.length ok n := by
  cases ok with
  | true => rw [← hj rfl]; exact h
  | false => exact h.dead _
/-- The loop over issuers. -/
def RSiss (m : Lims) (L : List (G × Int)) (c mo : Int) (k : Nat) : Bool → Int → Prop :=
  RS m L (∀ i : Nat, i < k → sumBy L (c, mo, (i : Int)) ≤ MAXM) (pre k (fun k => cut (lim m 3 k) (sumBy L (c, mo, k)))) (3 * k)
theorem RSiss.start (m : Lims) (L : List (G × Int)) (c mo : Int) (ok : Bool) (h : ok = false → capSum m L = none) : RSiss m L c mo 0 ok 0 := by
  cases ok with
  | true => exact .inl ⟨rfl, fun i hi => absurd hi (by omega), rfl, Int.le_refl _, by decide⟩
  | false => exact .inr ⟨rfl, h rfl, Int.le_refl _, by simp⟩
theorem RS.none {m : Lims} {L : List (G × Int)} {Q : Prop} {t B : Int} {ok : Bool} {n : Int} (h : RS m L Q t B ok n) : ok = false → capSum m L = none := by
  intro e
  rcases h with ⟨h, _⟩ | ⟨_, h, _⟩
  · rw [h] at e; cases e
  · exact h
theorem RSiss.bd {m : Lims} {L : List (G × Int)} {c mo : Int} {k : Nat} {ok : Bool} {n : Int} (h : RSiss m L c mo k ok n) : 0 ≤ n ∧ n ≤ (3 * (k : Int) + 1) * MAXM := by
  rcases h with ⟨_, _, _, h1, h2⟩ | ⟨_, _, h1, h2⟩
  · exact ⟨h1, by unfold MAXM at *; omega⟩
  · exact ⟨h1, by unfold MAXM at *; omega⟩
theorem RSiss.step {m : Lims} {L : List (G × Int)} (hf : ∀ p ∈ L, fitsL p = true) {c mo : Int} {k : Nat} (hk : k < 33) {n t : Int} {ok0 ok : Bool} (h : RSiss m L c mo k ok0 n) (hl : RSline m L (c, mo, (k : Int)) L.length ok t) (hd : ok0 = false → ok = false) :
    RSiss m L c mo (k + 1) (decide (n + cut (lim m 3 k) t ≤ MAXM) && ok) (n + cut (lim m 3 k) t) := by
  have hb0 := hl.bd
  have hc0 := cut_nonneg (lim m 3 k) hb0.1
  have hc1 := cut_le (lim m 3 k) t
  rcases h with ⟨_, hQ, hn, h1, h2⟩ | ⟨h, hno, h1, h2⟩
  · rcases hl with ⟨rfl, _, ht, h3, h4⟩ | ⟨rfl, hb, h3, h4⟩
    · rw [List.take_length] at ht
      have hp : pre (k + 1) (fun k => cut (lim m 3 k) (sumBy L (c, mo, k))) = n + cut (lim m 3 k) t := by rw [pre_succ, ← hn, ← ht]
      rw [Bool.and_true]
      by_cases hm : n + cut (lim m 3 k) t ≤ MAXM
      · rw [decide_eq_true hm]
        refine .inl ⟨rfl, fun i hi => ?_, hp.symm, by omega, hm⟩
        rcases Nat.lt_or_ge i k with h5 | h5
        · exact hQ i h5
        · rw [show i = k by omega, ← ht]; exact h4
      · rw [decide_eq_false hm]
        refine .inr ⟨rfl, capSum_bad1 hf (c := c) (mo := mo) ?_, by omega, by unfold MAXM at *; omega⟩
        have h6 := pre_mono (g := fun k => cut (lim m 3 k) (sumBy L (c, mo, k))) (fun k => cut_nonneg _ (sumBy_nonneg (fits_nonneg hf) _)) (show k + 1 ≤ 33 by omega)
        rw [F1_pre]
        omega
    · rw [Bool.and_false]
      exact .inr ⟨rfl, hb, by omega, by unfold MAXM at *; omega⟩
  · rw [hd h, Bool.and_false]
    exact .inr ⟨rfl, hno, by omega, by unfold MAXM at *; omega⟩
/-- The loop over currencies. -/
def RScur (m : Lims) (L : List (G × Int)) (c : Int) (k : Nat) : Bool → Int → Prop :=
  RS m L (∀ i : Nat, i < k → GoodM m (sumBy L) c ((i : Int) + 1)) (pre k (fun k => cut (lim m 2 ((k : Int) + 1)) (F1 m (sumBy L) c ((k : Int) + 1)))) (101 * k)
theorem RScur.start (m : Lims) (L : List (G × Int)) (c : Int) : RScur m L c 0 true 0 := .inl ⟨rfl, fun i hi => absurd hi (by omega), rfl, Int.le_refl _, by decide⟩
theorem RScur.bd {m : Lims} {L : List (G × Int)} {c : Int} {k : Nat} {ok : Bool} {n : Int} (h : RScur m L c k ok n) : 0 ≤ n ∧ n ≤ (101 * (k : Int) + 1) * MAXM := by
  rcases h with ⟨_, _, _, h1, h2⟩ | ⟨_, _, h1, h2⟩
  · exact ⟨h1, by unfold MAXM at *; omega⟩
  · exact ⟨h1, by unfold MAXM at *; omega⟩
theorem RScur.step {m : Lims} {L : List (G × Int)} (hf : ∀ p ∈ L, fitsL p = true) {c : Int} {k : Nat} (hk : k < 6) {n t : Int} {ok0 ok : Bool} (h : RScur m L c k ok0 n) (hl : RSiss m L c ((k : Int) + 1) 33 ok t) (hd : ok0 = false → ok = false) :
    RScur m L c (k + 1) (decide (n + cut (lim m 2 ((k : Int) + 1)) t ≤ MAXM) && ok) (n + cut (lim m 2 ((k : Int) + 1)) t) := by
  have hb0 := hl.bd
  have hc0 := cut_nonneg (lim m 2 ((k : Int) + 1)) hb0.1
  have hc1 := cut_le (lim m 2 ((k : Int) + 1)) t
  rcases h with ⟨_, hQ, hn, h1, h2⟩ | ⟨h, hno, h1, h2⟩
  · rcases hl with ⟨rfl, hq, ht, h3, h4⟩ | ⟨rfl, hb, h3, h4⟩
    · rw [← F1_pre] at ht
      have hp : pre (k + 1) (fun k => cut (lim m 2 ((k : Int) + 1)) (F1 m (sumBy L) c ((k : Int) + 1))) = n + cut (lim m 2 ((k : Int) + 1)) t := by rw [pre_succ, ← hn, ← ht]
      rw [Bool.and_true]
      by_cases hm : n + cut (lim m 2 ((k : Int) + 1)) t ≤ MAXM
      · rw [decide_eq_true hm]
        refine .inl ⟨rfl, fun i hi => ?_, hp.symm, by omega, hm⟩
        rcases Nat.lt_or_ge i k with h5 | h5
        · exact hQ i h5
        · obtain rfl : i = k := by omega
          refine ⟨fun i' hi' => ?_, by rw [← ht]; exact h4⟩
          rw [mem_rI] at hi'
          have := hq i'.toNat (by omega)
          rwa [show ((i'.toNat : Nat) : Int) = i' by omega] at this
      · rw [decide_eq_false hm]
        refine .inr ⟨rfl, capSum_bad2 hf (c := c) ?_, by omega, by unfold MAXM at *; omega⟩
        have h6 := pre_mono (g := fun k => cut (lim m 2 ((k : Int) + 1)) (F1 m (sumBy L) c ((k : Int) + 1))) (fun k => cut_nonneg _ (F1_nn m hf _ _)) (show k + 1 ≤ 6 by omega)
        rw [F2_pre]
        omega
    · rw [Bool.and_false]
      exact .inr ⟨rfl, hb, by omega, by unfold MAXM at *; omega⟩
  · rw [hd h, Bool.and_false]
    exact .inr ⟨rfl, hno, by omega, by unfold MAXM at *; omega⟩
/-- The loop over classes: it goes on where all is well alone. -/
def CLS (m : Lims) (L : List (G × Int)) (k : Nat) (n : Int) : Prop :=
  (∀ i : Nat, i < k → GoodC m (sumBy L) ((i : Int) + 1)) ∧ n = pre k (fun k => cut (lim m 1 ((k : Int) + 1)) (F2 m (sumBy L) ((k : Int) + 1))) ∧ 0 ≤ n ∧ n ≤ MAXM
theorem CLS.start (m : Lims) (L : List (G × Int)) : CLS m L 0 0 := ⟨fun i hi => absurd hi (by omega), rfl, Int.le_refl _, by decide⟩
theorem CLS.step {m : Lims} {L : List (G × Int)} (hf : ∀ p ∈ L, fitsL p = true) {k : Nat} (hk : k < 6) {n t : Int} {ok : Bool} (h : CLS m L k n) (hl : RScur m L ((k : Int) + 1) 6 ok t) :
    (((decide (n + cut (lim m 1 ((k : Int) + 1)) t ≤ MAXM) && ok) = true ∧ CLS m L (k + 1) (n + cut (lim m 1 ((k : Int) + 1)) t)) ∨ ((decide (n + cut (lim m 1 ((k : Int) + 1)) t ≤ MAXM) && ok) = false ∧ capSum m L = none)) := by
  obtain ⟨hQ, hn, h1, h2⟩ := h
  have hb0 := hl.bd
  have hc0 := cut_nonneg (lim m 1 ((k : Int) + 1)) hb0.1
  rcases hl with ⟨rfl, hq, ht, h3, h4⟩ | ⟨rfl, hb, h3, h4⟩
  · rw [← F2_pre] at ht
    have hp : pre (k + 1) (fun k => cut (lim m 1 ((k : Int) + 1)) (F2 m (sumBy L) ((k : Int) + 1))) = n + cut (lim m 1 ((k : Int) + 1)) t := by rw [pre_succ, ← hn, ← ht]
    rw [Bool.and_true]
    by_cases hm : n + cut (lim m 1 ((k : Int) + 1)) t ≤ MAXM
    · refine .inl ⟨decide_eq_true hm, fun i hi => ?_, hp.symm, by omega, hm⟩
      rcases Nat.lt_or_ge i k with h5 | h5
      · exact hQ i h5
      · obtain rfl : i = k := by omega
        refine ⟨fun mo hmo => ?_, by rw [← ht]; exact h4⟩
        rw [mem_rM] at hmo
        have := hq (mo - 1).toNat (by omega)
        rwa [show (((mo - 1).toNat : Nat) : Int) + 1 = mo by omega] at this
    · refine .inr ⟨decide_eq_false hm, capSum_bad3 hf ?_⟩
      have h6 := pre_mono (g := fun k => cut (lim m 1 ((k : Int) + 1)) (F2 m (sumBy L) ((k : Int) + 1))) (fun k => cut_nonneg _ (F2_nn m hf _)) (show k + 1 ≤ 6 by omega)
      rw [F3_pre]
      omega
  · exact .inr ⟨by rw [Bool.and_false], hb⟩
theorem CLS.done {m : Lims} {L : List (G × Int)} (hf : ∀ p ∈ L, fitsL p = true) {n : Int} (h : CLS m L 6 n) : capSum m L = some n := by
  obtain ⟨hQ, hn, h1, h2⟩ := h
  rw [← F3_pre] at hn
  rw [hn]
  refine capSum_good hf ⟨fun c hc => ?_, by rw [← hn]; exact h2⟩
  rw [mem_rM] at hc
  have := hQ (c - 1).toNat (by omega)
  rwa [show (((c - 1).toNat : Nat) : Int) + 1 = c by omega] at this
end Go.Proofs.YtkdmedmlbglgmaaDoor
