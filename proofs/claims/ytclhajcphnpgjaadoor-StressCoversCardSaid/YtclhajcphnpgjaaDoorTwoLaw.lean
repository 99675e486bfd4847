/- What Cover answers where the losses are small: the sum of some two above what is needed, and no two are more. No program in sight. -/
import Derived.Test.YtclhajcphnpgjaaDoorTops
import Derived.Test.YtclhajcphnpgjaaDoorTab
namespace Go.Proofs.YtclhajcphnpgjaaDoor
open Go Go.RowKit
set_option linter.unusedSimpArgs false
set_option linter.unusedVariables false

/-- Go's remainder, without its sign. -/
def absM (n b : Int) : Int := if n.tmod b < 0 then -(n.tmod b) else n.tmod b
theorem absM_bd (n : Int) {b : Int} (hb : 0 < b) : 0 ≤ absM n b ∧ absM n b < b := by
  have h1 := Int.tmod_lt_of_pos n hb
  have h2 := Int.lt_tmod_of_pos n hb
  unfold absM
  split <;> omega

/-- The losses that the first loop has set after i rounds. -/
def tabM (zs : List Int) : Nat → List ((Int × Int) × Int)
  | 0 => []
  | i + 1 => mset (tabM zs i) (zs.getD (3 * i) 0 % 16 + 1, zs.getD (3 * i + 1) 0 % 8 + 1) (absM (zs.getD (3 * i + 2) 0) 1000000)
theorem mset_mem {m : List ((Int × Int) × Int)} {k : Int × Int} {v : Int} {x : (Int × Int) × Int} (h : x ∈ mset m k v) : x = (k, v) ∨ x ∈ m := by
  unfold mset at h
  split at h
  · exact mem_mput (mdel_mem h)
  · exact mem_mput h
theorem tabM_bd (zs : List Int) : ∀ i : Nat, ∀ x ∈ tabM zs i, 0 ≤ x.2 ∧ x.2 < 1000000
  | 0 => by simp [tabM]
  | i + 1 => by
    intro x hx
    rcases mset_mem hx with rfl | hx
    · exact absM_bd _ (by omega)
    · exact tabM_bd zs i x hx

/-- The needs, and the greater ones. -/
def needL (d : Int) (ys : List Int) (k : Nat) : List Int := (List.range k).map fun i => absM (ys.getD i 0) 1000 + d
theorem needL_snoc (d : Int) (ys : List Int) (k : Nat) : needL d ys (k + 1) = needL d ys k ++ [absM (ys.getD k 0) 1000 + d] := by simp [needL, List.range_succ]
theorem needL_len (d : Int) (ys : List Int) (k : Nat) : (needL d ys k).length = k := by simp [needL]
theorem needL_get (d : Int) (ys : List Int) {k i : Nat} (h : i < k) : (needL d ys k).getD i 0 = absM (ys.getD i 0) 1000 + d := by simp [needL, List.getD, h]
theorem needL_amt {d : Int} (h0 : 0 ≤ d) (h1 : d ≤ 1000) (ys : List Int) (k : Nat) : (needL d ys k).all isAmt = true := by
  rw [List.all_eq_true]
  intro x hx
  obtain ⟨i, _, rfl⟩ := List.mem_map.1 hx
  have := absM_bd (ys.getD i 0) (show (0 : Int) < 1000 by omega)
  simp only [isAmt, decide_eq_true_eq]
  omega

theorem topGo_le {C : Int} (hC : 0 ≤ C) : ∀ xs : List Int, (∀ x ∈ xs, x ≤ C) → (topGo xs).1 ≤ C := by
  suffices ∀ (xs : List Int) (s : Int × Int), s.1 ≤ C → (∀ x ∈ xs, x ≤ C) → (xs.foldl topStep s).1 ≤ C from fun xs h => this xs (0, 0) hC h
  intro xs
  induction xs with
  | nil => intro s h _; exact h
  | cons x xs ih =>
    intro s h hx
    refine ih _ ?_ (fun y hy => hx y (by simp [hy]))
    obtain ⟨f, g⟩ := s
    have hx0 := hx x (by simp)
    simp only at h
    rcases topStep_cases f g x with ⟨_, e⟩ | ⟨_, _, e⟩ | ⟨_, _, e⟩ <;> rw [e] <;> simp only <;> omega

/-- Two of a list, or one. -/
def pr (xs : List Int) (a b : Nat) : Int := xs.getD a 0 + (if b = a then 0 else xs.getD b 0)
theorem topGo_pr {xs : List Int} (hx : xs.all isAmt = true) {a b : Nat} (ha : a < xs.length) (hb : b < xs.length) : pr xs a b ≤ (topGo xs).1 + (topGo xs).2 := by
  obtain ⟨h1, h2⟩ := topGo_most hx xs.length (Nat.le_refl _)
  rw [List.take_length] at h1 h2
  have hbd := topGo_bd _ hx
  unfold pr
  by_cases hab : b = a
  · rw [if_pos hab]
    have := h1 a ha
    omega
  · rw [if_neg hab]
    rcases Nat.lt_or_gt_of_ne hab with h | h
    · exact h2 a b h ha
    · have := h2 b a h hb
      omega
/-- The two greatest are two of the list; or the second is none. -/
theorem topGo_att {xs : List Int} (hx : xs.all isAmt = true) : ∀ m, m ≤ xs.length → ((topGo (xs.take m)).1 = 0 ∧ (topGo (xs.take m)).2 = 0) ∨
    ∃ a, a < m ∧ xs.getD a 0 = (topGo (xs.take m)).1 ∧ 0 < (topGo (xs.take m)).1 ∧ ((topGo (xs.take m)).2 = 0 ∨ ∃ b, b < m ∧ b ≠ a ∧ xs.getD b 0 = (topGo (xs.take m)).2)
  | 0, _ => .inl ⟨rfl, rfl⟩
  | m + 1, hm => by
    have ih := topGo_att hx m (by omega)
    have hall : (xs.take m).all isAmt = true := by
      rw [List.all_eq_true] at hx ⊢
      exact fun y hy => hx y (List.mem_of_mem_take hy)
    have hbd := topGo_bd _ hall
    rw [take_snoc (by omega), topGo_snoc]
    generalize topGo (xs.take m) = st at ih hbd
    obtain ⟨f, s⟩ := st
    simp only at ih hbd
    rcases topStep_cases f s (xs.getD m 0) with ⟨h1, e⟩ | ⟨h1, h2, e⟩ | ⟨h1, h2, e⟩
    · rw [e]
      simp only
      refine .inr ⟨m, by omega, rfl, by omega, ?_⟩
      rcases ih with ⟨h, _⟩ | ⟨a, ha, h3, h4, _⟩
      · exact .inl h
      · exact .inr ⟨a, by omega, by omega, h3⟩
    · rw [e]
      simp only
      rcases ih with ⟨h, h'⟩ | ⟨a, ha, h3, h4, _⟩
      · omega
      · exact .inr ⟨a, by omega, h3, h4, .inr ⟨m, by omega, by omega, rfl⟩⟩
    · rw [e]
      simp only
      rcases ih with h | ⟨a, ha, h3, h4, h5⟩
      · exact .inl h
      · refine .inr ⟨a, by omega, h3, h4, ?_⟩
        rcases h5 with h5 | ⟨b, hb, h6, h7⟩
        · exact .inl h5
        · exact .inr ⟨b, by omega, h6, h7⟩
theorem topGo_pr_att {xs : List Int} (hx : xs.all isAmt = true) : (topGo xs).1 + (topGo xs).2 = 0 ∨ ∃ a b, a < xs.length ∧ b < xs.length ∧ pr xs a b = (topGo xs).1 + (topGo xs).2 := by
  have h := topGo_att hx xs.length (Nat.le_refl _)
  rw [List.take_length] at h
  rcases h with ⟨h1, h2⟩ | ⟨a, ha, h1, _, h2 | ⟨b, hb, h3, h4⟩⟩
  · exact .inl (by omega)
  · exact .inr ⟨a, a, ha, ha, by unfold pr; rw [if_pos rfl]; omega⟩
  · exact .inr ⟨a, b, ha, hb, by unfold pr; rw [if_neg h3]; omega⟩

/-- What Two answers where all is small. -/
def twoN (m : List ((Int × Int) × Int)) (s : Int) (xs : List Int) : Int := (topGo (aboveL m s xs xs.length)).1 + (topGo (aboveL m s xs xs.length)).2
theorem aboveL_bd {m : List ((Int × Int) × Int)} (hm : ∀ x ∈ m, 0 ≤ x.2 ∧ x.2 < 1000000) (s : Int) {xs : List Int} (hx : xs.all isAmt = true) : ∀ x ∈ aboveL m s xs xs.length, 0 ≤ x ∧ x ≤ 1000000 := by
  intro x hxm
  obtain ⟨i, hi, rfl⟩ := List.mem_map.1 hxm
  have hi' := List.mem_range.1 hi
  have h1 : isAmt (xs.getD i 0) = true := List.all_eq_true.1 hx _ (by simp [List.getD, hi'])
  have h2 : 0 ≤ xs.getD i 0 ∧ xs.getD i 0 ≤ 1000000000000000 := by simpa [isAmt] using h1
  have h3 : 0 ≤ (mget m (s, (i : Int) + 1)).getD 0 ∧ (mget m (s, (i : Int) + 1)).getD 0 < 1000000 := by
    cases hg : mget m (s, (i : Int) + 1) with
    | none => simp
    | some v => have := hm _ (mget_mem hg); simpa using this
  unfold aboveN
  omega
theorem aboveL_amt {m : List ((Int × Int) × Int)} (hm : ∀ x ∈ m, 0 ≤ x.2 ∧ x.2 < 1000000) (s : Int) {xs : List Int} (hx : xs.all isAmt = true) : (aboveL m s xs xs.length).all isAmt = true := by
  rw [List.all_eq_true]
  intro x h
  have := aboveL_bd hm s hx x h
  simp only [isAmt, decide_eq_true_eq]; omega
theorem twoN_bd {m : List ((Int × Int) × Int)} (hm : ∀ x ∈ m, 0 ≤ x.2 ∧ x.2 < 1000000) (s : Int) {xs : List Int} (hx : xs.all isAmt = true) : 0 ≤ twoN m s xs ∧ twoN m s xs ≤ 2000000 := by
  have h1 := topGo_bd _ (aboveL_amt hm s hx)
  have h2 := topGo_le (C := 1000000) (by omega) _ (fun x h => (aboveL_bd hm s hx x h).2)
  unfold twoN
  omega
theorem twoR_small {m : List ((Int × Int) × Int)} (hm : ∀ x ∈ m, 0 ≤ x.2 ∧ x.2 < 1000000) {s : Int} (hs : isScene s = true) {xs : List Int} (hx : xs.all isAmt = true) (hl : xs.length ≤ 8) : twoR m s xs = .ok (twoN m s xs) := by
  have hb := twoN_bd hm s hx
  unfold twoR
  rw [if_neg (by omega), hs, hx]
  simp only [Bool.and_self, if_true]
  unfold topR
  rw [if_pos (aboveL_amt hm s hx), if_pos (show (topGo (aboveL m s xs xs.length)).1 + (topGo (aboveL m s xs xs.length)).2 ≤ 1000000000000000 by have := hb.2; unfold twoN at this; omega)]
  rfl
theorem coverN_small {m : List ((Int × Int) × Int)} (hm : ∀ x ∈ m, 0 ≤ x.2 ∧ x.2 < 1000000) {xs : List Int} (hx : xs.all isAmt = true) (hl : xs.length ≤ 8) : ∀ k : Nat, k ≤ 16 →
    ∃ a b : Int, coverN m xs k = .ok (a, b) ∧ 0 ≤ a ∧ a ≤ 2000000 ∧ (∀ s : Int, 1 ≤ s → s ≤ k → twoN m s xs ≤ a) ∧ ((a = 0 ∧ b = 1) ∨ (1 ≤ b ∧ b ≤ k ∧ twoN m b xs = a))
  | 0, _ => ⟨0, 1, rfl, by omega, by omega, fun s h1 h2 => by omega, .inl ⟨rfl, rfl⟩⟩
  | k + 1, hk => by
    obtain ⟨a, b, h1, h2, h3, h4, h5⟩ := coverN_small hm hx hl k (by omega)
    have hs : isScene ((k : Int) + 1) = true := by simp only [isScene, decide_eq_true_eq]; omega
    have ht := twoN_bd hm ((k : Int) + 1) hx
    have hst := coverN_step h1 (twoR_small hm hs hx hl)
    by_cases hgt : a < twoN m ((k : Int) + 1) xs
    · rw [if_pos hgt] at hst
      refine ⟨_, _, hst, by omega, by omega, fun s g1 g2 => ?_, .inr ⟨by omega, by omega, rfl⟩⟩
      by_cases e : s = (k : Int) + 1
      · rw [e]; omega
      · have := h4 s g1 (by omega)
        omega
    · rw [if_neg hgt] at hst
      refine ⟨_, _, hst, h2, h3, fun s g1 g2 => ?_, ?_⟩
      · by_cases e : s = (k : Int) + 1
        · rw [e]; omega
        · exact h4 s g1 (by omega)
      · rcases h5 with h5 | ⟨h5, h6, h7⟩
        · exact .inl h5
        · exact .inr ⟨h5, by omega, h7⟩
theorem aboveL_get (m : List ((Int × Int) × Int)) (s : Int) (xs : List Int) {k i : Nat} (h : i < k) : (aboveL m s xs k).getD i 0 = aboveN m s xs i := by simp [aboveL, List.getD, h]

/-- What both calls of Cover answer. -/
theorem covers {m : List ((Int × Int) × Int)} (hm : ∀ x ∈ m, 0 ≤ x.2 ∧ x.2 < 1000000) (ys : List Int) {n : Nat} (hn : n ≤ 8) :
    ∃ best at_ less at2 : Int, coverR m (needL 0 ys n) = .ok (best, at_) ∧ coverR m (needL 5 ys n) = .ok (less, at2) ∧ less ≤ best ∧ 1 ≤ at_ ∧ at_ ≤ 16 ∧ 0 ≤ best ∧ best ≤ 2000000 ∧
      (∀ (s : Int) (a b : Nat), 1 ≤ s → s ≤ 16 → a < n → b < n → aboveN m s (needL 0 ys n) a + (if b = a then 0 else aboveN m s (needL 0 ys n) b) ≤ best) ∧
      (best = 0 ∨ ∃ A C : Nat, A < n ∧ C < n ∧ aboveN m at_ (needL 0 ys n) A + (if C = A then 0 else aboveN m at_ (needL 0 ys n) C) = best) := by
  have x0 := needL_amt (d := 0) (by omega) (by omega) ys n
  have x5 := needL_amt (d := 5) (by omega) (by omega) ys n
  have l0 := needL_len 0 ys n
  have l5 := needL_len 5 ys n
  obtain ⟨best, at_, h1, h2, h3, h4, h5⟩ := coverN_small hm x0 (by omega) 16 (by omega)
  obtain ⟨less, at2, g1, g2, g3, g4, g5⟩ := coverN_small hm x5 (by omega) 16 (by omega)
  have hpr : ∀ (s : Int) (a b : Nat), a < n → b < n → pr (aboveL m s (needL 0 ys n) n) a b = aboveN m s (needL 0 ys n) a + (if b = a then 0 else aboveN m s (needL 0 ys n) b) := by
    intro s a b ha hb
    unfold pr
    rw [aboveL_get _ _ _ ha, aboveL_get _ _ _ hb]
  have hle : ∀ (s : Int) (a b : Nat), a < n → b < n → pr (aboveL m s (needL 0 ys n) n) a b ≤ twoN m s (needL 0 ys n) := by
    intro s a b ha hb
    have := topGo_pr (aboveL_amt hm s x0) (a := a) (b := b) (by rw [aboveL_len, l0]; exact ha) (by rw [aboveL_len, l0]; exact hb)
    rw [l0] at this
    unfold twoN
    rw [l0]
    exact this
  refine ⟨best, at_, less, at2, h1, g1, ?_, by omega, by omega, h2, h3, fun s a b hs1 hs2 ha hb => ?_, ?_⟩
  · rcases g5 with ⟨g, _⟩ | ⟨g6, g7, g8⟩
    · omega
    · have hmono : twoN m at2 (needL 5 ys n) ≤ twoN m at2 (needL 0 ys n) := by
        have ha := topGo_pr_att (aboveL_amt hm at2 x5)
        have hz := (twoN_bd hm at2 x0).1
        rcases ha with ha | ⟨a, b, ha, hb, hab⟩
        · unfold twoN at hz ⊢; omega
        · rw [aboveL_len, l5] at ha hb
          have h6 := hle at2 a b ha hb
          rw [hpr _ _ _ ha hb] at h6
          have h7 : twoN m at2 (needL 5 ys n) = pr (aboveL m at2 (needL 5 ys n) n) a b := by rw [l5] at hab; unfold twoN; rw [l5]; exact hab.symm
          rw [h7]
          unfold pr
          rw [aboveL_get _ _ _ ha, aboveL_get _ _ _ hb]
          unfold aboveN at h6 ⊢
          rw [needL_get _ _ ha, needL_get _ _ hb]
          rw [needL_get _ _ ha, needL_get _ _ hb] at h6
          split at h6 <;> rename_i hh
          · rw [if_pos hh]; omega
          · rw [if_neg hh]; omega
      have := h4 at2 g6 g7
      omega
  · have := hle s a b ha hb
    rw [hpr _ _ _ ha hb] at this
    have h6 := h4 s hs1 hs2
    omega
  · rcases h5 with ⟨h, _⟩ | ⟨h5, h6, h7⟩
    · exact .inl h
    · have ha := topGo_pr_att (aboveL_amt hm at_ x0)
      rcases ha with ha | ⟨a, b, ha, hb, hab⟩
      · refine .inl ?_
        rw [← h7]; exact ha
      · rw [aboveL_len, l0] at ha hb
        refine .inr ⟨a, b, ha, hb, ?_⟩
        rw [← hpr _ _ _ ha hb, ← h7]
        unfold twoN
        rw [l0] at hab ⊢
        exact hab

end Go.Proofs.YtclhajcphnpgjaaDoor
