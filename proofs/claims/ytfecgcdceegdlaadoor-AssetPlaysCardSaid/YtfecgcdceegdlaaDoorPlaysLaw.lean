/- The law of AssetPlays without a program: the document's list, by number; a table of assets. -/
import Derived.Test.YtfecgcdceegdlaaDoorAssetLaw
namespace Go.Proofs.YtfecgcdceegdlaaDoor
open Go.Maps
open Go Go.RowKit
set_option linter.unusedSimpArgs false
set_option linter.unusedVariables false

/-- Find: the place of an asset; -1. -/
def findA (L : List AS) (id : Int) : Int := match L.findIdx? (fun a => decide (a.1 = id)) with | some k => (k : Int) | none => -1
/-- How many stand ahead of an asset. -/
def aheadA (L : List AS) (id : Int) : Nat := (L.takeWhile fun a => decide (a.1 < id)).length
/-- AddAsset. -/
def addA (L : List AS) (a : AS) : List AS := L.take (aheadA L a.1) ++ [a] ++ L.drop (aheadA L a.1)
def goodA (a : AS) : Bool := validA a.1 a.2.1 a.2.2.1 a.2.2.2.1 a.2.2.2.2
def errA (L : List AS) (a : AS) : Int := if goodA a = false then 103 else if 0 ≤ findA L a.1 then 107 else 0
def nextA (L : List AS) (a : AS) : List AS := if goodA a = false then L else if 0 ≤ findA L a.1 then L else addA L a

/-- The table and the list say the same. -/
structure Same (m : Assets) (L : List AS) : Prop where
  nodup : (m.map (·.1)).Nodup
  up : L.Pairwise (fun a b => a.1 < b.1)
  own : ∀ x ∈ m, x.2.1 = x.1 ∧ 1 ≤ x.1 ∧ x.1 ≤ 32
  mem : ∀ a : AS, a ∈ L ↔ (a.1, a) ∈ m

theorem sorted_unique : ∀ {L M : List Int}, L.Pairwise (· < ·) → M.Pairwise (· < ·) → (∀ x, x ∈ L ↔ x ∈ M) → L = M
  | [], [], _, _, _ => rfl
  | [], y :: M, _, _, h => by have := (h y).2 List.mem_cons_self; cases this
  | x :: L, [], _, _, h => by have := (h x).1 List.mem_cons_self; cases this
  | x :: L, y :: M, hL, hM, h => by
    rw [List.pairwise_cons] at hL hM
    have hxy : x = y := by
      have h1 := (h x).1 List.mem_cons_self
      have h2 := (h y).2 List.mem_cons_self
      rcases List.mem_cons.1 h1 with e | h1
      · exact e
      · rcases List.mem_cons.1 h2 with e | h2
        · exact e.symm
        · have := hM.1 x h1; have := hL.1 y h2; omega
    subst hxy
    have : L = M := sorted_unique hL.2 hM.2 fun z => by
      constructor
      · intro hz
        rcases List.mem_cons.1 ((h z).1 (List.mem_cons_of_mem _ hz)) with e | h'
        · subst e; have := hL.1 z hz; omega
        · exact h'
      · intro hz
        rcases List.mem_cons.1 ((h z).2 (List.mem_cons_of_mem _ hz)) with e | h'
        · subst e; have := hM.1 z hz; omega
        · exact h'
    rw [this]
theorem Same.ids {m : Assets} {L : List AS} (h : Same m L) : idsOf m = L.map (·.1) := by
  refine sorted_unique (ids_sorted h.nodup) (List.pairwise_map.2 h.up) fun x => ?_
  constructor
  · intro hx
    obtain ⟨y, hy, rfl⟩ := idsOf_mem hx
    have e := (h.own y hy).1
    refine List.mem_map.2 ⟨y.2, (h.mem y.2).2 (by rw [e]; exact hy), e⟩
  · intro hx
    obtain ⟨a, ha, rfl⟩ := List.mem_map.1 hx
    have := (h.mem a).1 ha
    exact (List.mergeSort_perm (m.map (·.1)) leI).mem_iff.2 (List.mem_map.2 ⟨_, this, rfl⟩)
theorem Same.all {m : Assets} {L : List AS} (h : Same m L) : allOf m = L := by
  unfold allOf
  rw [h.ids, List.map_map]
  conv => rhs; rw [← List.map_id L]
  refine List.map_congr_left fun a ha => ?_
  have hg : mget m a.1 = some a := mget_of_mem h.nodup ((h.mem a).1 ha)
  simp only [Function.comp, hg, Option.getD_some, id]
theorem findA_none {L : List AS} {id : Int} : findA L id < 0 ↔ ∀ a ∈ L, a.1 ≠ id := by
  unfold findA
  cases e : L.findIdx? (fun a => decide (a.1 = id)) with
  | none => rw [List.findIdx?_eq_none_iff] at e; simp at e ⊢; exact fun a b c d f h => e a b c d f h
  | some k =>
    simp only
    constructor
    · intro h; omega
    · intro h
      obtain ⟨hk, hp, _⟩ := List.findIdx?_eq_some_iff_getElem.1 e
      simp at hp
      exact absurd hp (h _ (List.getElem_mem hk))
theorem findA_some {L : List AS} {id : Int} (h : 0 ≤ findA L id) : ∃ k a, findA L id = (k : Nat) ∧ L[k]? = some a ∧ a.1 = id := by
  unfold findA at h ⊢
  cases e : L.findIdx? (fun a => decide (a.1 = id)) with
  | none => rw [e] at h; simp at h
  | some k =>
    obtain ⟨hk, hp, _⟩ := List.findIdx?_eq_some_iff_getElem.1 e
    simp at hp
    exact ⟨k, L[k], rfl, List.getElem?_eq_getElem hk, hp⟩
theorem Same.find {m : Assets} {L : List AS} (h : Same m L) (id : Int) : (mget m id).isSome = decide (0 ≤ findA L id) := by
  by_cases hf : 0 ≤ findA L id
  · obtain ⟨k, a, _, hk, rfl⟩ := findA_some hf
    have := mget_of_mem h.nodup ((h.mem a).1 (List.mem_of_getElem? hk))
    rw [this]; simp [hf]
  · have hn := findA_none.1 (show findA L id < 0 by omega)
    have : mget m id = none := mget_none.2 fun x hx e => by
      have ho := (h.own x hx).1
      exact hn x.2 ((h.mem x.2).2 (by rw [ho]; exact hx)) (by omega)
    rw [this]; simp [hf]
theorem Same.get {m : Assets} {L : List AS} (h : Same m L) {k : Nat} {a : AS} (hk : L[k]? = some a) : (mget m a.1).getD zeroA = a := by
  rw [mget_of_mem h.nodup ((h.mem a).1 (List.mem_of_getElem? hk))]; rfl
theorem aheadA_le (L : List AS) (id : Int) : aheadA L id ≤ L.length := by
  unfold aheadA; exact (List.takeWhile_prefix _).length_le
theorem ahead_take (L : List AS) (id : Int) : L.take (aheadA L id) = L.takeWhile fun a => decide (a.1 < id) := by
  unfold aheadA
  exact (List.prefix_iff_eq_take.1 (List.takeWhile_prefix _)).symm
theorem ahead_drop (L : List AS) (id : Int) : L.drop (aheadA L id) = L.dropWhile fun a => decide (a.1 < id) := by
  have h := List.takeWhile_append_dropWhile (p := fun a : AS => decide (a.1 < id)) (l := L)
  have h2 := List.take_append_drop (aheadA L id) L
  rw [ahead_take] at h2
  exact List.append_cancel_left (h2.trans h.symm)
theorem drop_ge : ∀ {L : List AS} {id : Int}, L.Pairwise (fun a b => a.1 < b.1) → ∀ a ∈ L.dropWhile (fun a => decide (a.1 < id)), id ≤ a.1
  | [], id, _, a, h => by cases h
  | x :: L, id, hp, a, h => by
    rw [List.pairwise_cons] at hp
    by_cases hx : x.1 < id
    · rw [List.dropWhile_cons_of_pos (by simpa using hx)] at h
      exact drop_ge hp.2 a h
    · rw [List.dropWhile_cons_of_neg (by simpa using hx)] at h
      rcases List.mem_cons.1 h with rfl | h
      · omega
      · have := hp.1 a h; omega
theorem addA_mem {L : List AS} {a x : AS} : x ∈ addA L a ↔ x = a ∨ x ∈ L := by
  unfold addA
  rw [List.mem_append, List.mem_append, List.mem_singleton]
  constructor
  · rintro ((h | h) | h)
    · exact .inr (List.mem_of_mem_take h)
    · exact .inl h
    · exact .inr (List.mem_of_mem_drop h)
  · rintro (h | h)
    · exact .inl (.inr h)
    · rw [← List.take_append_drop (aheadA L a.1) L] at h
      rcases List.mem_append.1 h with h | h
      · exact .inl (.inl h)
      · exact .inr h
theorem mem_tw {p : AS → Bool} : ∀ {L : List AS} {x : AS}, x ∈ L.takeWhile p → p x = true
  | [], x, h => by cases h
  | y :: L, x, h => by
    rw [List.takeWhile_cons] at h
    split at h
    · rcases List.mem_cons.1 h with rfl | h
      · assumption
      · exact mem_tw h
    · cases h
theorem addA_up {L : List AS} {a : AS} (hp : L.Pairwise (fun a b => a.1 < b.1)) (hn : ∀ x ∈ L, x.1 ≠ a.1) : (addA L a).Pairwise (fun a b => a.1 < b.1) := by
  unfold addA
  have h1 : ∀ x ∈ L.take (aheadA L a.1), x.1 < a.1 := fun x hx => by
    rw [ahead_take] at hx
    simpa using mem_tw hx
  have h2 : ∀ x ∈ L.drop (aheadA L a.1), a.1 < x.1 := fun x hx => by
    have hm := List.mem_of_mem_drop hx
    rw [ahead_drop] at hx
    have := drop_ge hp x hx
    have := hn x hm
    omega
  refine List.pairwise_append.2 ⟨List.pairwise_append.2 ⟨hp.sublist (List.take_sublist _ _), List.pairwise_singleton _ _, fun x hx y hy => ?_⟩, hp.sublist (List.drop_sublist _ _), fun x hx y hy => ?_⟩
  · rw [List.mem_singleton] at hy; subst hy; exact h1 x hx
  · rcases List.mem_append.1 hx with hx | hx
    · exact Int.lt_trans (h1 x hx) (h2 y hy)
    · rw [List.mem_singleton] at hx; subst hx; exact h2 y hy
theorem addA_len (L : List AS) (a : AS) : (addA L a).length = L.length + 1 := by
  have := aheadA_le L a.1
  simp only [addA, List.length_append, List.length_take, List.length_drop, List.length_singleton]
  omega
theorem nextA_len (L : List AS) (a : AS) : (nextA L a).length ≤ L.length + 1 := by
  unfold nextA
  split
  · omega
  · split
    · omega
    · rw [addA_len]; omega
theorem Same.nil : Same [] [] := ⟨List.nodup_nil, List.Pairwise.nil, fun x h => (by cases h), fun a => by simp⟩
/-- What Add leaves: where the asset may be and is not there yet. -/
theorem Same.add {m : Assets} {L : List AS} (h : Same m L) {a : AS} (hv : goodA a = true) (hf : findA L a.1 < 0) : Same (mput m a.1 a) (addA L a) := by
  have hno : mget m a.1 = none := by
    have := h.find a.1
    rw [show decide (0 ≤ findA L a.1) = false by simp; omega] at this
    simpa using this
  have hput : mput m a.1 a = m ++ [(a.1, a)] := by unfold mput; rw [hno]; rfl
  refine ⟨mnodup_mput h.nodup _ _, addA_up h.up (findA_none.1 hf), fun x hx => ?_, fun b => ?_⟩
  · rcases mem_mput hx with rfl | hx
    · simp only [goodA, validA, decide_eq_true_eq] at hv
      exact ⟨rfl, by omega, by omega⟩
    · exact h.own x hx
  · rw [addA_mem, hput, List.mem_append, List.mem_singleton, h.mem b]
    constructor
    · rintro (rfl | h)
      · exact .inr rfl
      · exact .inl h
    · rintro (h | h)
      · exact .inr h
      · exact .inl (Prod.mk.inj h).2
end Go.Proofs.YtfecgcdceegdlaaDoor
