/- The law of AssetOrder without a program: what is added by the numbers (i*step)%n+1, each once; all by their numbers; the issuers' parts. -/
import Derived.Test.YtfecgcdceegdlaaDoorAll
namespace Go.Proofs.YtfecgcdceegdlaaDoor
open Go.Maps
open Go Go.RowKit
set_option linter.unusedSimpArgs false
set_option linter.unusedVariables false

def keyAt (n s : Int) (i : Nat) : Int := ((i : Int) * s) % n + 1
def ordA (n s : Int) (i : Nat) : AS := (keyAt n s i, (i : Int) % 3, 2, 1, 0)
def ordM (n s : Int) : Nat → Assets
  | 0 => []
  | i + 1 => if (mget (ordM n s i) (keyAt n s i)).isSome then ordM n s i else mput (ordM n s i) (keyAt n s i) (ordA n s i)
def thereB (n s : Int) (i : Nat) : Nat → Bool
  | 0 => false
  | k + 1 => thereB n s i k || decide (((k : Int) * s) % n = ((i : Int) * s) % n)
theorem thereB_eq (n s : Int) (i : Nat) : ∀ k, thereB n s i k = (mget (ordM n s k) (keyAt n s i)).isSome
  | 0 => rfl
  | k + 1 => by
    have ih := thereB_eq n s i k
    rw [thereB, ih, ordM]
    by_cases e : ((k : Int) * s) % n = ((i : Int) * s) % n
    · have ek : keyAt n s k = keyAt n s i := by unfold keyAt; rw [e]
      rw [ek]
      split
      · simp_all
      · rw [mget_mput_same]; simp [e]
    · have ek : keyAt n s i ≠ keyAt n s k := by unfold keyAt; omega
      split
      · simp [e]
      · rw [mget_mput_other _ _ ek]; simp [e]
theorem key_pos {n s : Int} (hn : 0 < n) (hs : 0 ≤ s) (i : Nat) : 1 ≤ keyAt n s i ∧ keyAt n s i ≤ n := by
  have h0 : 0 ≤ (i : Int) * s := Int.mul_nonneg (by omega) hs
  have h1 := Int.emod_nonneg ((i : Int) * s) (show n ≠ 0 by omega)
  have h2 := Int.emod_lt_of_pos ((i : Int) * s) hn
  unfold keyAt
  omega
/-- What the master holds, as the law needs it. -/
structure OrdOk (n : Int) (m : Assets) : Prop where
  nodup : (m.map (·.1)).Nodup
  own : ∀ x ∈ m, x.2.1 = x.1 ∧ 1 ≤ x.1 ∧ x.1 ≤ n ∧ (x.2.2.1 = 0 ∨ x.2.2.1 = 1 ∨ x.2.2.1 = 2)
theorem ord_ok {n s : Int} (hn : 0 < n) (hs : 0 ≤ s) : ∀ i, OrdOk n (ordM n s i) ∧ (ordM n s i).length ≤ i
  | 0 => ⟨⟨List.nodup_nil, fun x hx => by cases hx⟩, Nat.le_refl _⟩
  | i + 1 => by
    obtain ⟨ih, hl⟩ := ord_ok hn hs i
    rw [ordM]
    split
    · exact ⟨ih, by omega⟩
    · refine ⟨⟨mnodup_mput ih.nodup _ _, fun x hx => ?_⟩, ?_⟩
      · rcases mem_mput hx with rfl | h
        · have hk := key_pos hn hs i
          refine ⟨rfl, hk.1, hk.2, ?_⟩
          simp only [ordA]
          omega
        · exact ih.own x h
      · have := mlen_mput (ordM n s i) (keyAt n s i) (ordA n s i)
        omega
theorem ord_ne {n s : Int} : ∀ i, ordM n s (i + 1) ≠ []
  | i => by
    rw [ordM]
    split
    · intro e
      rename_i h
      rw [e] at h
      simp [mget] at h
    · intro e
      have := mget_mput_same (ordM n s i) (keyAt n s i) (ordA n s i)
      rw [e] at this
      simp [mget] at this
theorem all_ids {n : Int} {m : Assets} (h : OrdOk n m) : (allOf m).map (·.1) = idsOf m := by
  unfold allOf
  rw [List.map_map]
  conv => rhs; rw [← List.map_id (idsOf m)]
  refine List.map_congr_left fun k hk => ?_
  obtain ⟨x, hx, rfl⟩ := idsOf_mem hk
  have hg : mget m x.1 = some x.2 := mget_of_mem h.nodup hx
  simp only [Function.comp, hg, Option.getD_some, id]
  exact (h.own x hx).1
theorem ids_sorted {m : Assets} (h : (m.map (·.1)).Nodup) : (idsOf m).Pairwise (· < ·) := by
  have hs : (idsOf m).Pairwise (fun a b => leI a b = true) := List.pairwise_mergeSort (fun a b c h1 h2 => by simp [leI] at *; omega) (fun a b => by simp [leI]; omega) _
  have hn : (idsOf m).Nodup := by unfold idsOf; exact (List.mergeSort_perm (m.map (·.1)) leI).nodup_iff.2 h
  refine (hs.and hn).imp fun {a b} hab => ?_
  have h1 := hab.1
  simp [leI] at h1
  have := hab.2
  omega
theorem all_up {n : Int} {m : Assets} (h : OrdOk n m) {i : Nat} {x y : AS} (hx : (allOf m)[i]? = some x) (hy : (allOf m)[i + 1]? = some y) : x.1 < y.1 := by
  have hp := ids_sorted h.nodup
  rw [← all_ids h] at hp
  obtain ⟨h1, e1⟩ := List.getElem?_eq_some_iff.1 hx
  obtain ⟨h2, e2⟩ := List.getElem?_eq_some_iff.1 hy
  have := List.pairwise_iff_getElem.1 hp i (i + 1) (by simpa using h1) (by simpa using h2) (by omega)
  simp only [List.getElem_map, e1, e2] at this
  exact this
theorem all_iss {n : Int} {m : Assets} (h : OrdOk n m) : ∀ x ∈ allOf m, x.2.1 = 0 ∨ x.2.1 = 1 ∨ x.2.1 = 2 := by
  intro x hx
  obtain ⟨k, hk, rfl⟩ := List.mem_map.1 hx
  obtain ⟨y, hy, rfl⟩ := idsOf_mem hk
  have hg : mget m y.1 = some y.2 := mget_of_mem h.nodup hy
  rw [hg, Option.getD_some]
  exact (h.own y hy).2.2.2
theorem three_parts : ∀ (L : List AS), (∀ x ∈ L, x.2.1 = 0 ∨ x.2.1 = 1 ∨ x.2.1 = 2) →
    (L.filter fun a => decide (a.2.1 = 0)).length + (L.filter fun a => decide (a.2.1 = 1)).length + (L.filter fun a => decide (a.2.1 = 2)).length = L.length
  | [], _ => rfl
  | x :: L, h => by
    have ih := three_parts L fun y hy => h y (List.mem_cons_of_mem _ hy)
    have hx := h x List.mem_cons_self
    simp only [List.filter_cons]
    rcases hx with e | e | e <;> simp [e] <;> omega
end Go.Proofs.YtfecgcdceegdlaaDoor
