/- The two greatest: the plain facts. -/
import Derived.Test.YtclhajcphnpgjaaDoorCover
import Derived.Test.YtclhajcphnpgjaaDoorNum
import Derived.Test.YtclhajcphnpgjaaDoorSee
import Derived.Deep.RegionLaw
namespace Go.Proofs.YtclhajcphnpgjaaDoor
open Go Go.RowKit
set_option linter.unusedSimpArgs false
set_option linter.unusedVariables false

theorem topStep_le {s : Int × Int} (n : Int) (h : s.2 ≤ s.1) : (topStep s n).2 ≤ (topStep s n).1 := by
  unfold topStep
  (repeat' split) <;> (try simp only) <;> omega
theorem topStep_cases (f s n : Int) : (f < n ∧ topStep (f, s) n = (n, f)) ∨ (n ≤ f ∧ s < n ∧ topStep (f, s) n = (f, n)) ∨ (n ≤ f ∧ n ≤ s ∧ topStep (f, s) n = (f, s)) := by
  by_cases h1 : f < n
  · exact .inl ⟨h1, by simp [topStep, h1]⟩
  · by_cases h2 : s < n
    · exact .inr (.inl ⟨by omega, h2, by simp [topStep, h1, h2]⟩)
    · exact .inr (.inr ⟨by omega, by omega, by simp [topStep, h1, h2]⟩)
theorem topStep_eq {s : Int × Int} (n : Int) (h : s.2 ≤ s.1) : topStep s n = (max s.1 n, max s.2 (min s.1 n)) := by
  obtain ⟨f, g⟩ := s
  simp only at h
  rcases topStep_cases f g n with ⟨h1, e⟩ | ⟨h1, h1', e⟩ | ⟨h1, h1', e⟩ <;> rw [e] <;> simp only [Prod.mk.injEq] <;> omega
theorem topStep_comm {s : Int × Int} (a b : Int) (h : s.2 ≤ s.1) : topStep (topStep s a) b = topStep (topStep s b) a := by
  rw [topStep_eq b (topStep_le a h), topStep_eq a (topStep_le b h), topStep_eq a h, topStep_eq b h]
  simp only [Prod.mk.injEq]
  omega
theorem topFold_perm {xs ys : List Int} (h : xs.Perm ys) : ∀ s : Int × Int, s.2 ≤ s.1 → xs.foldl topStep s = ys.foldl topStep s := by
  induction h with
  | nil => intro s _; rfl
  | cons x _ ih => intro s hs; exact ih _ (topStep_le x hs)
  | swap x y l => intro s hs; simp only [List.foldl_cons]; rw [topStep_comm _ _ hs]
  | trans _ _ ih1 ih2 => intro s hs; rw [ih1 s hs, ih2 s hs]
theorem topR_perm {xs ys : List Int} (h : xs.Perm ys) : topR xs = topR ys := by
  unfold topR topGo
  rw [topFold_perm h (0, 0) (by simp), Bool.eq_iff_iff.2 (show xs.all isAmt = true ↔ ys.all isAmt = true by simp only [List.all_eq_true]; exact ⟨fun k x hx => k x (h.mem_iff.2 hx), fun k x hx => k x (h.mem_iff.1 hx)⟩)]
theorem topR_rot (xs : List Int) (k : Nat) : topR (xs.drop k ++ xs.take k) = topR xs := by
  have h : (xs.drop k ++ xs.take k).Perm (xs.take k ++ xs.drop k) := List.perm_append_comm
  rw [List.take_append_drop] at h
  exact topR_perm h
theorem topR_one (x : Int) : topR [x] = if isAmt x then .ok x else .error 2 := by
  unfold topR
  by_cases hx : isAmt x = true
  · have hb : 0 ≤ x ∧ x ≤ 1000000000000000 := by simpa [isAmt] using hx
    have h2 : topGo [x] = (x, 0) := by
      simp only [topGo, List.foldl_cons, List.foldl_nil, topStep]
      split
      · rfl
      · have : x = 0 := by omega
        subst this; rfl
    rw [h2]; simp [hx]; omega
  · simp [hx]
theorem SlI.one (w : World) (x : Int) (E : TypeId) : SlI (w.alloc (.cells #[.int .i64 x] E)) (.slice (some ⟨w.heap.size, 0, none⟩) 1 1) [x] :=
  ⟨_, 1, rfl, Nat.le_refl _, by decide, .inr ⟨w.heap.size, 0, rfl, by simp, fun i hi => by
    obtain rfl : i = 0 := by simpa using hi
    exact cell_of_row _ _ _ _ _ _ (heap_alloc_new w _)⟩⟩
/-- No two are more than the two greatest; none is more. -/
theorem topGo_most {xs : List Int} (hx : xs.all isAmt = true) : ∀ m, m ≤ xs.length → (∀ i, i < m → xs.getD i 0 ≤ (topGo (xs.take m)).1) ∧ ∀ i j, j < i → i < m → xs.getD i 0 + xs.getD j 0 ≤ (topGo (xs.take m)).1 + (topGo (xs.take m)).2
  | 0, _ => ⟨fun i hi => absurd hi (by omega), fun i j _ hi => absurd hi (by omega)⟩
  | m + 1, hm => by
    obtain ⟨h1, h2⟩ := topGo_most hx m (by omega)
    have hall : (xs.take m).all isAmt = true := by
      rw [List.all_eq_true] at hx ⊢
      exact fun y hy => hx y (List.mem_of_mem_take hy)
    have hbd := topGo_bd _ hall
    rw [take_snoc (by omega), topGo_snoc]
    generalize topGo (xs.take m) = st at h1 h2 hbd
    obtain ⟨f, s⟩ := st
    simp only at h1 h2 hbd
    have hc := topStep_cases f s (xs.getD m 0)
    refine ⟨fun i hi => ?_, fun i j hj hi => ?_⟩
    · rcases Nat.lt_succ_iff_lt_or_eq.1 hi with h | rfl
      · have := h1 i h
        rcases hc with ⟨_, e⟩ | ⟨_, _, e⟩ | ⟨_, _, e⟩ <;> rw [e] <;> simp only <;> omega
      · rcases hc with ⟨_, e⟩ | ⟨_, _, e⟩ | ⟨_, _, e⟩ <;> rw [e] <;> simp only <;> omega
    · rcases Nat.lt_succ_iff_lt_or_eq.1 hi with h | rfl
      · have := h2 i j hj h
        have h3 := h1 i h
        have h4 := h1 j (by omega)
        rcases hc with ⟨_, e⟩ | ⟨_, _, e⟩ | ⟨_, _, e⟩ <;> rw [e] <;> simp only <;> omega
      · have h4 := h1 j hj
        rcases hc with ⟨_, e⟩ | ⟨_, _, e⟩ | ⟨_, _, e⟩ <;> rw [e] <;> simp only <;> omega
theorem topR_most {xs : List Int} {n : Int} (h : topR xs = .ok n) : (∀ i, i < xs.length → 0 ≤ xs.getD i 0 ∧ xs.getD i 0 ≤ 1000000000000000 ∧ xs.getD i 0 ≤ n) ∧ ∀ i j, j < i → i < xs.length → xs.getD i 0 + xs.getD j 0 ≤ n := by
  unfold topR at h
  by_cases hx : xs.all isAmt = true
  · rw [if_pos hx] at h
    split at h
    · obtain ⟨h1, h2⟩ := topGo_most hx xs.length (Nat.le_refl _)
      rw [List.take_length] at h1 h2
      have hbd := topGo_bd _ hx
      simp only [Except.ok.injEq] at h
      refine ⟨fun i hi => ?_, fun i j hj hi => by have := h2 i j hj hi; omega⟩
      have h3 := h1 i hi
      have h4 : isAmt (xs.getD i 0) = true := List.all_eq_true.1 hx _ (by simp [List.getD, hi])
      have h5 : 0 ≤ xs.getD i 0 ∧ xs.getD i 0 ≤ 1000000000000000 := by simpa [isAmt] using h4
      omega
    · simp at h
  · rw [if_neg hx] at h; simp at h

end Go.Proofs.YtclhajcphnpgjaaDoor
