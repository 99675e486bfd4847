/- What counts of lines under limits (chapter 16), as plain lists: order, splitting, bounds. -/
import Derived.Test.YtkdmedmlbglgmaaDoorSums
namespace Go.Proofs.YtkdmedmlbglgmaaDoor
open Go Go.RowKit
set_option linter.unusedSimpArgs false
set_option linter.unusedVariables false

/-- A class, a currency, an issuer. -/
abbrev G := Int × Int × Int
abbrev Lims := List ((Int × Int) × Int)
def MAXM : Int := 1000000000000000
def lim (m : Lims) (what id : Int) : Int := (mget m (what, id)).getD 0
def cut (most n : Int) : Int := if 0 < most then min n most else n
def capI (m : Lims) (g : G) (n : Int) : Int := cut (lim m 3 g.2.2) n
def capM (m : Lims) (g : G) (n : Int) : Int := cut (lim m 2 g.2.1) n
def capC (m : Lims) (g : G) (n : Int) : Int := cut (lim m 1 g.1) n
def toI (g : G) : G := (g.1, g.2.1, 0)
def toM (g : G) : G := (g.1, 0, 0)
def toC (_ : G) : G := (0, 0, 0)
def fitsL (p : G × Int) : Bool := decide ((1 ≤ p.1.1 ∧ p.1.1 ≤ 6) ∧ (1 ≤ p.1.2.1 ∧ p.1.2.1 ≤ 6) ∧ (0 ≤ p.1.2.2 ∧ p.1.2.2 ≤ 32) ∧ 0 ≤ p.2 ∧ p.2 ≤ 1000000000000000)

/-- One step: what counts of groups, added to greater ones; none: too great. -/
def stepV (cap : G → Int → Int) (to : G → G) (S : List (G × Int)) : Option (List (G × Int)) :=
  if overM MAXM (lvl cap to S) then none else some (sumsOf (lvl cap to S))
def capS (m : Lims) (S : List (G × Int)) : Option Int :=
  ((stepV (capI m) toI S).bind fun S1 => (stepV (capM m) toM S1).bind fun S2 => stepV (capC m) toC S2).map fun S3 => (mget S3 (0, 0, 0)).getD 0
/-- What counts of lines; none: a sum is too great. -/
def capSum (m : Lims) (L : List (G × Int)) : Option Int := if overM MAXM L then none else capS m (sumsOf L)

theorem cut_le (most n : Int) : cut most n ≤ n := by unfold cut; split <;> omega
theorem cut_nonneg (most : Int) {n : Int} (h : 0 ≤ n) : 0 ≤ cut most n := by unfold cut; split <;> omega
theorem cut_zero (most : Int) : cut most 0 = 0 := by unfold cut; split <;> omega
theorem cut_none (n : Int) : cut 0 n = n := by simp [cut]
theorem cut_mono (most : Int) {a b : Int} (h : a ≤ b) : cut most a ≤ cut most b := by unfold cut; split <;> omega
theorem cut_lip (most : Int) {a b : Int} (h : a ≤ b) : cut most b ≤ cut most a + (b - a) := by unfold cut; split <;> omega

/-- The same but for the order, or both none. -/
def PermO (a b : Option (List (G × Int))) : Prop := (a = none ∧ b = none) ∨ ∃ x y, a = some x ∧ b = some y ∧ x.Perm y ∧ (x.map (·.1)).Nodup
theorem stepV_perm (cap : G → Int → Int) (to : G → G) {S S' : List (G × Int)} (h : S.Perm S') : PermO (stepV cap to S) (stepV cap to S') := by
  have hp := lvl_perm cap to h
  unfold stepV
  rw [overM_perm hp]
  split
  · exact .inl ⟨rfl, rfl⟩
  · exact .inr ⟨_, _, rfl, rfl, sumsOf_perm hp, sumsOf_nodup _⟩
theorem capS_perm (m : Lims) {S S' : List (G × Int)} (h : S.Perm S') : capS m S = capS m S' := by
  unfold capS
  rcases stepV_perm (capI m) toI h with ⟨h1, h2⟩ | ⟨x, y, h1, h2, hp, _⟩
  · rw [h1, h2]
  rw [h1, h2]
  simp only [Option.bind_some]
  rcases stepV_perm (capM m) toM hp with ⟨h3, h4⟩ | ⟨x2, y2, h3, h4, hp2, _⟩
  · rw [h3, h4]
  rw [h3, h4]
  simp only [Option.bind_some]
  rcases stepV_perm (capC m) toC hp2 with ⟨h5, h6⟩ | ⟨x3, y3, h5, h6, hp3, hn3⟩
  · rw [h5, h6]
  rw [h5, h6]
  simp only [Option.map_some]
  rw [mget_perm hn3 hp3]
theorem capSum_alike (m : Lims) {L L' : List (G × Int)} (ho : overM MAXM L = overM MAXM L') (hk : ∀ x, x ∈ L.map (·.1) ↔ x ∈ L'.map (·.1)) (hs : ∀ x, sumBy L x = sumBy L' x) : capSum m L = capSum m L' := by
  unfold capSum
  rw [ho, capS_perm m (sumsOf_alike hk hs)]
theorem capSum_perm (m : Lims) {L L' : List (G × Int)} (h : L.Perm L') : capSum m L = capSum m L' :=
  capSum_alike m (overM_perm h) (fun x => (h.map _).mem_iff) (fun x => sumBy_perm h x)

/-- Three levels, where nothing is too great. -/
def lev1 (m : Lims) (L : List (G × Int)) : List (G × Int) := lvl (capI m) toI (sumsOf L)
def lev2 (m : Lims) (L : List (G × Int)) : List (G × Int) := lvl (capM m) toM (sumsOf (lev1 m L))
def lev3 (m : Lims) (L : List (G × Int)) : List (G × Int) := lvl (capC m) toC (sumsOf (lev2 m L))
theorem lev1_nonneg (m : Lims) {L : List (G × Int)} (h : ∀ p ∈ L, 0 ≤ p.2) : ∀ p ∈ lev1 m L, 0 ≤ p.2 := lvl_nonneg _ (fun _ _ h => cut_nonneg _ h) (sumsOf_nonneg h)
theorem lev2_nonneg (m : Lims) {L : List (G × Int)} (h : ∀ p ∈ L, 0 ≤ p.2) : ∀ p ∈ lev2 m L, 0 ≤ p.2 := lvl_nonneg _ (fun _ _ h => cut_nonneg _ h) (sumsOf_nonneg (lev1_nonneg m h))
theorem lev3_nonneg (m : Lims) {L : List (G × Int)} (h : ∀ p ∈ L, 0 ≤ p.2) : ∀ p ∈ lev3 m L, 0 ≤ p.2 := lvl_nonneg _ (fun _ _ h => cut_nonneg _ h) (sumsOf_nonneg (lev2_nonneg m h))
theorem lev1_all (m : Lims) (L : List (G × Int)) : sumAll (lev1 m L) ≤ sumAll L := by
  have := sumAll_lvl (S := sumsOf L) (cap := capI m) toI (fun _ _ => cut_le _ _)
  rw [sumAll_sumsOf] at this; exact this
theorem lev2_all (m : Lims) (L : List (G × Int)) : sumAll (lev2 m L) ≤ sumAll L := by
  have := sumAll_lvl (S := sumsOf (lev1 m L)) (cap := capM m) toM (fun _ _ => cut_le _ _)
  rw [sumAll_sumsOf] at this; exact Int.le_trans this (lev1_all m L)
theorem lev3_all (m : Lims) (L : List (G × Int)) : sumAll (lev3 m L) ≤ sumAll L := by
  have := sumAll_lvl (S := sumsOf (lev2 m L)) (cap := capC m) toC (fun _ _ => cut_le _ _)
  rw [sumAll_sumsOf] at this; exact Int.le_trans this (lev2_all m L)
theorem lev3_sum (m : Lims) (L : List (G × Int)) : sumBy (lev3 m L) (0, 0, 0) = sumAll (lev3 m L) := by
  unfold sumBy
  rw [List.filter_eq_self.2]
  intro p hp
  obtain ⟨q, _, rfl⟩ := List.mem_map.1 hp
  simp [toC]
theorem capSum_small (m : Lims) {L : List (G × Int)} (h : ∀ p ∈ L, 0 ≤ p.2) (hs : sumAll L ≤ MAXM) : capSum m L = some (sumAll (lev3 m L)) := by
  unfold capSum capS
  rw [overM_small h hs]
  have o1 : stepV (capI m) toI (sumsOf L) = some (sumsOf (lev1 m L)) := by
    unfold stepV; rw [show lvl (capI m) toI (sumsOf L) = lev1 m L from rfl, overM_small (lev1_nonneg m h) (Int.le_trans (lev1_all m L) hs)]; rfl
  have o2 : stepV (capM m) toM (sumsOf (lev1 m L)) = some (sumsOf (lev2 m L)) := by
    unfold stepV; rw [show lvl (capM m) toM (sumsOf (lev1 m L)) = lev2 m L from rfl, overM_small (lev2_nonneg m h) (Int.le_trans (lev2_all m L) hs)]; rfl
  have o3 : stepV (capC m) toC (sumsOf (lev2 m L)) = some (sumsOf (lev3 m L)) := by
    unfold stepV; rw [show lvl (capC m) toC (sumsOf (lev2 m L)) = lev3 m L from rfl, overM_small (lev3_nonneg m h) (Int.le_trans (lev3_all m L) hs)]; rfl
  rw [o1]; simp only [Option.bind_some]; rw [o2]; simp only [Option.bind_some]; rw [o3]
  simp only [Option.map_some, sumsOf_getD, lev3_sum]
  rfl

/-! Without limits all counts. -/
theorem sumAll_lvl_eq {S : List (G × Int)} {cap : G → Int → Int} (to : G → G) (hc : ∀ x v, cap x v = v) : sumAll (lvl cap to S) = sumAll S := by
  induction S with
  | nil => rfl
  | cons p S ih => simp only [lvl, List.map_cons, sumAll_cons, hc] at ih ⊢; rw [ih]
theorem lim_nil (a b : Int) : lim [] a b = 0 := rfl
theorem lev3_none (L : List (G × Int)) : sumAll (lev3 [] L) = sumAll L := by
  unfold lev3 lev2 lev1
  have c1 : ∀ (x : G) v, capI [] x v = v := fun _ _ => cut_none _
  have c2 : ∀ (x : G) v, capM [] x v = v := fun _ _ => cut_none _
  have c3 : ∀ (x : G) v, capC [] x v = v := fun _ _ => cut_none _
  rw [sumAll_lvl_eq _ c3, sumAll_sumsOf, sumAll_lvl_eq _ c2, sumAll_sumsOf, sumAll_lvl_eq _ c1, sumAll_sumsOf]

/-! The same as a formula over all classes, currencies, issuers. -/
def sumD {α : Type} (D : List α) (f : α → Int) : Int := (D.map f).sum
theorem sumD_cons {α : Type} (x : α) (D : List α) (f : α → Int) : sumD (x :: D) f = f x + sumD D f := by simp [sumD]
theorem sumD_nil {α : Type} (f : α → Int) : sumD ([] : List α) f = 0 := rfl
theorem sumD_congr {α : Type} {D : List α} {f g : α → Int} (h : ∀ x ∈ D, f x = g x) : sumD D f = sumD D g := by
  unfold sumD; rw [List.map_congr_left h]
theorem sumD_mono {α : Type} {D : List α} {f g : α → Int} (h : ∀ x ∈ D, f x ≤ g x) : sumD D f ≤ sumD D g := by
  induction D with
  | nil => exact Int.le_refl _
  | cons x D ih =>
    rw [sumD_cons, sumD_cons]
    have h1 := h x (List.mem_cons_self ..)
    have h2 := ih fun y hy => h y (List.mem_cons_of_mem _ hy)
    omega
theorem sumD_lip {α : Type} {D : List α} {f g f' g' : α → Int} (h : ∀ x ∈ D, g x ≤ f x + (g' x - f' x)) : sumD D g ≤ sumD D f + (sumD D g' - sumD D f') := by
  induction D with
  | nil => exact Int.le_refl _
  | cons x D ih =>
    simp only [sumD_cons]
    have h1 := h x (List.mem_cons_self ..)
    have h2 := ih fun y hy => h y (List.mem_cons_of_mem _ hy)
    omega
theorem sumD_zero {α : Type} {D : List α} {f : α → Int} (h : ∀ x ∈ D, f x = 0) : sumD D f = 0 := by
  rw [sumD_congr h]
  induction D with
  | nil => rfl
  | cons x D ih => rw [sumD_cons, ih (fun y hy => h y (List.mem_cons_of_mem _ hy))]; rfl
theorem sumD_one {α : Type} [DecidableEq α] {D : List α} (hn : D.Nodup) {f g : α → Int} (k : α) (h : ∀ x, x ≠ k → f x = g x) : sumD D f = sumD D g + if k ∈ D then f k - g k else 0 := by
  induction D with
  | nil => simp [sumD_nil]
  | cons x D ih =>
    obtain ⟨n1, n2⟩ := List.nodup_cons.1 hn
    rw [sumD_cons, sumD_cons, ih n2]
    by_cases hx : x = k
    · subst hx
      rw [if_neg n1, if_pos (List.mem_cons_self ..)]; omega
    · rw [h x hx]
      have : (k ∈ x :: D) ↔ k ∈ D := by simp [show k ≠ x from fun e => hx e.symm]
      simp only [this]; omega
theorem sumBy_lvl {cap : G → Int → Int} {to : G → G} (hc : ∀ x, cap x 0 = 0) {D : List G} (hD : D.Nodup) {y : G} : ∀ {S : List (G × Int)}, (S.map (·.1)).Nodup → (∀ p ∈ S, to p.1 = y ↔ p.1 ∈ D) →
    sumBy (lvl cap to S) y = sumD D (fun x => cap x ((mget S x).getD 0))
  | [], _, _ => by
    rw [sumD_zero (f := fun x => cap x ((mget ([] : List (G × Int)) x).getD 0)) (fun x _ => hc x)]; rfl
  | p :: S, hn, hk => by
    obtain ⟨n1, n2⟩ := List.nodup_cons.1 hn
    have hg : mget S p.1 = none := mget_none.2 fun q hq e => n1 (show p.1 ∈ S.map (·.1) from by rw [← e]; exact List.mem_map.2 ⟨q, hq, rfl⟩)
    have ih := sumBy_lvl hc hD n2 (fun q hq => hk q (List.mem_cons_of_mem _ hq))
    show sumBy ((to p.1, cap p.1 p.2) :: lvl cap to S) y = _
    rw [sumBy_cons, ih, sumD_one hD (f := fun x => cap x ((mget (p :: S) x).getD 0)) (g := fun x => cap x ((mget S x).getD 0)) p.1 (fun x hx => by
      have : mget (p :: S) x = mget S x := by simp [mget, List.find?_cons, show ¬ p.1 = x from fun e => hx e.symm]
      simp only [this])]
    have h1 : mget (p :: S) p.1 = some p.2 := by simp [mget]
    have hk1 := hk p (List.mem_cons_self ..)
    simp only [h1, hg, Option.getD_some, Option.getD_none, hc]
    by_cases hm : p.1 ∈ D
    · simp only [hm, hk1.2 hm, if_true]; omega
    · simp only [hm, if_false, show ¬ to p.1 = y from fun e => hm (hk1.1 e)]; omega

def rI : List Int := (List.range 33).map fun i : Nat => (i : Int)
def rM : List Int := (List.range 6).map fun i : Nat => (i : Int) + 1
theorem mem_rI {i : Int} : i ∈ rI ↔ 0 ≤ i ∧ i ≤ 32 := by
  simp only [rI, List.mem_map, List.mem_range]
  constructor
  · rintro ⟨k, hk, rfl⟩; omega
  · intro h; exact ⟨i.toNat, by omega, by omega⟩
theorem mem_rM {i : Int} : i ∈ rM ↔ 1 ≤ i ∧ i ≤ 6 := by
  simp only [rM, List.mem_map, List.mem_range]
  constructor
  · rintro ⟨k, hk, rfl⟩; omega
  · intro h; exact ⟨(i - 1).toNat, by omega, by omega⟩
theorem nodup_rI : rI.Nodup := by decide +kernel
theorem nodup_rM : rM.Nodup := by decide +kernel
theorem nodup_map_inj {α β : Type} {l : List α} {f : α → β} (h : l.Nodup) (hf : ∀ a b, f a = f b → a = b) : (l.map f).Nodup := List.pairwise_map.2 (h.imp fun hne e => hne (hf _ _ e))
theorem sumD_map {α β : Type} (D : List α) (f : α → β) (g : β → Int) : sumD (D.map f) g = sumD D (fun x => g (f x)) := by simp [sumD, Function.comp_def]

/-- What counts, by a function of the groups' sums. -/
def F1 (m : Lims) (f : G → Int) (c mo : Int) : Int := sumD rI fun i => cut (lim m 3 i) (f (c, mo, i))
def F2 (m : Lims) (f : G → Int) (c : Int) : Int := sumD rM fun mo => cut (lim m 2 mo) (F1 m f c mo)
def F3 (m : Lims) (f : G → Int) : Int := sumD rM fun c => cut (lim m 1 c) (F2 m f c)

theorem fits_key {L : List (G × Int)} (h : ∀ p ∈ L, fitsL p = true) {x : G} (hx : x ∈ L.map (·.1)) : x.1 ∈ rM ∧ x.2.1 ∈ rM ∧ x.2.2 ∈ rI := by
  obtain ⟨p, hp, rfl⟩ := List.mem_map.1 hx
  have := h p hp
  simp only [fitsL, decide_eq_true_eq] at this
  rw [mem_rM, mem_rM, mem_rI]
  omega
theorem fits_nonneg {L : List (G × Int)} (h : ∀ p ∈ L, fitsL p = true) : ∀ p ∈ L, 0 ≤ p.2 := fun p hp => by
  have := h p hp
  simp only [fitsL, decide_eq_true_eq] at this
  omega
theorem lev1_key {m : Lims} {L : List (G × Int)} (h : ∀ p ∈ L, fitsL p = true) {x : G} (hx : x ∈ (lev1 m L).map (·.1)) : x.1 ∈ rM ∧ x.2.1 ∈ rM ∧ x.2.2 = 0 := by
  obtain ⟨p, hp, rfl⟩ := List.mem_map.1 hx
  obtain ⟨q, hq, rfl⟩ := List.mem_map.1 hp
  have := fits_key h (sumsOf_mem hq).2
  exact ⟨this.1, this.2.1, rfl⟩
theorem lev2_key {m : Lims} {L : List (G × Int)} (h : ∀ p ∈ L, fitsL p = true) {x : G} (hx : x ∈ (lev2 m L).map (·.1)) : x.1 ∈ rM ∧ x.2.1 = 0 ∧ x.2.2 = 0 := by
  obtain ⟨p, hp, rfl⟩ := List.mem_map.1 hx
  obtain ⟨q, hq, rfl⟩ := List.mem_map.1 hp
  have := lev1_key h (sumsOf_mem hq).2
  exact ⟨this.1, rfl, rfl⟩
theorem lev1_at (m : Lims) {L : List (G × Int)} (h : ∀ p ∈ L, fitsL p = true) (c mo : Int) : sumBy (lev1 m L) (c, mo, 0) = F1 m (sumBy L) c mo := by
  unfold lev1
  rw [sumBy_lvl (cap := capI m) (fun x => cut_zero _) (D := rI.map fun i => (c, mo, i)) (nodup_map_inj nodup_rI fun a b e => by simpa using e) (sumsOf_nodup L) (fun p hp => by
    have hk := fits_key h (sumsOf_mem hp).2
    obtain ⟨⟨pc, pm, pi⟩, v⟩ := p
    simp only [toI, Prod.mk.injEq, and_true, List.mem_map] at hk ⊢
    constructor
    · rintro ⟨rfl, rfl⟩; exact ⟨pi, hk.2.2, rfl, rfl, rfl⟩
    · rintro ⟨i, _, h1, h2, _⟩; exact ⟨h1.symm, h2.symm⟩), sumD_map]
  unfold F1
  exact sumD_congr fun i _ => by simp only [sumsOf_getD, capI]
theorem lev2_at (m : Lims) {L : List (G × Int)} (h : ∀ p ∈ L, fitsL p = true) (c : Int) : sumBy (lev2 m L) (c, 0, 0) = F2 m (sumBy L) c := by
  unfold lev2
  rw [sumBy_lvl (cap := capM m) (fun x => cut_zero _) (D := rM.map fun mo => (c, mo, 0)) (nodup_map_inj nodup_rM fun a b e => by simpa using e) (sumsOf_nodup _) (fun p hp => by
    have hk := lev1_key h (sumsOf_mem hp).2
    obtain ⟨⟨pc, pm, pi⟩, v⟩ := p
    simp only [toM, Prod.mk.injEq, and_true, List.mem_map] at hk ⊢
    constructor
    · rintro rfl; exact ⟨pm, hk.2.1, rfl, rfl, hk.2.2.symm⟩
    · rintro ⟨i, _, h1, _⟩; exact h1.symm), sumD_map]
  unfold F2
  exact sumD_congr fun mo _ => by simp only [sumsOf_getD, capM, lev1_at m h]
theorem lev3_at (m : Lims) {L : List (G × Int)} (h : ∀ p ∈ L, fitsL p = true) : sumAll (lev3 m L) = F3 m (sumBy L) := by
  rw [← lev3_sum]
  unfold lev3
  rw [sumBy_lvl (cap := capC m) (fun x => cut_zero _) (D := rM.map fun c => (c, 0, 0)) (nodup_map_inj nodup_rM fun a b e => by simpa using e) (sumsOf_nodup _) (fun p hp => by
    have hk := lev2_key h (sumsOf_mem hp).2
    obtain ⟨⟨pc, pm, pi⟩, v⟩ := p
    simp only [toC, Prod.mk.injEq, and_true, true_iff, List.mem_map] at hk ⊢
    exact ⟨pc, hk.1, rfl, hk.2.1.symm, hk.2.2.symm⟩), sumD_map]
  unfold F3
  exact sumD_congr fun c _ => by simp only [sumsOf_getD, capC, lev2_at m h]

/-- All that there is, without limits, by the formula. -/
def T3 (f : G → Int) : Int := sumD rM fun c => sumD rM fun mo => sumD rI fun i => f (c, mo, i)
theorem T3_all {L : List (G × Int)} (h : ∀ p ∈ L, fitsL p = true) : T3 (sumBy L) = sumAll L := by
  have := lev3_at [] h
  rw [lev3_none] at this
  rw [this]
  unfold T3 F3
  refine sumD_congr fun c _ => ?_
  rw [lim_nil, cut_none]
  unfold F2
  refine sumD_congr fun mo _ => ?_
  rw [lim_nil, cut_none]
  unfold F1
  exact sumD_congr fun i _ => by rw [lim_nil, cut_none]
theorem F3_mono (m : Lims) {f g : G → Int} (h : ∀ x, f x ≤ g x) : F3 m f ≤ F3 m g :=
  sumD_mono fun c _ => cut_mono _ (sumD_mono fun mo _ => cut_mono _ (sumD_mono fun i _ => cut_mono _ (h _)))
theorem F1_lip (m : Lims) {f g : G → Int} (h : ∀ x, f x ≤ g x) (c mo : Int) : F1 m g c mo ≤ F1 m f c mo + ((sumD rI fun i => g (c, mo, i)) - (sumD rI fun i => f (c, mo, i))) :=
  sumD_lip fun i _ => cut_lip _ (h _)
theorem F1_mono (m : Lims) {f g : G → Int} (h : ∀ x, f x ≤ g x) (c mo : Int) : F1 m f c mo ≤ F1 m g c mo := sumD_mono fun i _ => cut_mono _ (h _)
theorem F2_lip (m : Lims) {f g : G → Int} (h : ∀ x, f x ≤ g x) (c : Int) : F2 m g c ≤ F2 m f c + ((sumD rM fun mo => sumD rI fun i => g (c, mo, i)) - (sumD rM fun mo => sumD rI fun i => f (c, mo, i))) := by
  refine sumD_lip fun mo _ => ?_
  have h1 := cut_lip (lim m 2 mo) (F1_mono m h c mo)
  have h2 := F1_lip m h c mo
  show cut _ _ ≤ cut _ _ + (_ - _)
  omega
theorem F2_mono (m : Lims) {f g : G → Int} (h : ∀ x, f x ≤ g x) (c : Int) : F2 m f c ≤ F2 m g c := sumD_mono fun mo _ => cut_mono _ (F1_mono m h c mo)
theorem F3_lip (m : Lims) {f g : G → Int} (h : ∀ x, f x ≤ g x) : F3 m g ≤ F3 m f + (T3 g - T3 f) := by
  refine sumD_lip fun c _ => ?_
  have h1 := cut_lip (lim m 1 c) (F2_mono m h c)
  have h2 := F2_lip m h c
  show cut _ _ ≤ cut _ _ + (_ - _)
  omega

/-- One line more counts no less, and no more than itself. -/
theorem capM_more (m : Lims) {p : G × Int} {L : List (G × Int)} (h : ∀ q ∈ p :: L, fitsL q = true) : sumAll (lev3 m L) ≤ sumAll (lev3 m (p :: L)) ∧ sumAll (lev3 m (p :: L)) - sumAll (lev3 m L) ≤ p.2 := by
  have h' : ∀ q ∈ L, fitsL q = true := fun q hq => h q (List.mem_cons_of_mem _ hq)
  have hp := fits_nonneg h p (List.mem_cons_self ..)
  have hle : ∀ x, sumBy L x ≤ sumBy (p :: L) x := fun x => by rw [sumBy_cons]; split <;> omega
  rw [lev3_at m h, lev3_at m h']
  refine ⟨F3_mono m hle, ?_⟩
  have := F3_lip m hle
  rw [T3_all h, T3_all h', sumAll_cons] at this
  omega

/-- Of one class alone. -/
theorem capM_class (m : Lims) {L : List (G × Int)} (h : ∀ p ∈ L, fitsL p = true) {c : Int} (hc : c ∈ rM) : sumAll (lev3 m (L.filter fun p => decide (p.1.1 = c))) = cut (lim m 1 c) (F2 m (sumBy L) c) := by
  have h' : ∀ p ∈ L.filter (fun p => decide (p.1.1 = c)), fitsL p = true := fun p hp => h p (List.mem_filter.1 hp).1
  rw [lev3_at m h']
  have hb : ∀ x : G, sumBy (L.filter fun p => decide (p.1.1 = c)) x = if x.1 = c then sumBy L x else 0 := by
    intro x
    unfold sumBy
    rw [List.filter_filter]
    split
    · rename_i hx
      congr 1
      refine List.filter_congr fun p _ => ?_
      by_cases e : p.1 = x
      · simp [e, hx]
      · simp [e]
    · rename_i hx
      rw [List.filter_eq_nil_iff.2]
      · rfl
      · intro p _ e
        simp only [Bool.and_eq_true, decide_eq_true_eq] at e
        exact hx (by rw [← e.1]; exact e.2)
  have hz : ∀ c', c' ≠ c → F2 m (sumBy (L.filter fun p => decide (p.1.1 = c))) c' = 0 := by
    intro c' hne
    unfold F2
    refine sumD_zero fun mo _ => ?_
    rw [show F1 m (sumBy (L.filter fun p => decide (p.1.1 = c))) c' mo = 0 from sumD_zero fun i _ => by rw [hb]; simp only [hne, if_false]; exact cut_zero _]
    exact cut_zero _
  have hs : F2 m (sumBy (L.filter fun p => decide (p.1.1 = c))) c = F2 m (sumBy L) c := by
    unfold F2
    refine sumD_congr fun mo _ => ?_
    unfold F1
    congr 1
    exact sumD_congr fun i _ => by rw [hb]; simp
  unfold F3
  rw [sumD_one nodup_rM (g := fun _ => 0) c (fun x hx => by rw [hz x hx]; exact cut_zero _), sumD_zero (fun _ _ => rfl), if_pos hc, hs]
  omega
theorem capM_classes (m : Lims) {L : List (G × Int)} (h : ∀ p ∈ L, fitsL p = true) : sumAll (lev3 m L) = sumD rM fun c => sumAll (lev3 m (L.filter fun p => decide (p.1.1 = c))) := by
  rw [lev3_at m h]
  unfold F3
  exact sumD_congr fun c hc => (capM_class m h hc).symm

end Go.Proofs.YtkdmedmlbglgmaaDoor
