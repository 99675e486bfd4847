/- A master in memory as the document's list: Add, Get, All, Of at it. -/
import Derived.Test.YtfecgcdceegdlaaDoorPlaysLaw
import Derived.Test.YtfecgcdceegdlaaDoorOf
import Derived.Test.YtfecgcdceegdlaaDoorMaster0
import Derived.Test.YtfecgcdceegdlaaDoorSee
namespace Go.Proofs.YtfecgcdceegdlaaDoor
open Go.Maps
open Go Go.RowKit
set_option linter.unusedSimpArgs false
set_option linter.unusedVariables false

/-- The error's value of a number 0, 103, 107. -/
def evA (p : Nat → Addr) (c : Int) : Value := if c = 103 then ev p 2 else if c = 107 then ev p 6 else .nilIface
def CodeA (c : Int) : Prop := c = 0 ∨ c = 103 ∨ c = 107
theorem errA_code (L : List AS) (a : AS) : CodeA (errA L a) := by
  unfold errA CodeA
  split
  · exact .inr (.inl rfl)
  · split
    · exact .inr (.inr rfl)
    · exact .inl rfl
theorem is_evA {B : Nat} {p : Nat → Addr} {w : World} (hE : Errs (List.range 21) B p w) {c : Int} (hc : CodeA c) :
    Calls Tryd.prog 18 #[evA p c, .int .i64 c] w fun e w' => e = .returned (.bool true) ∧ Below w.heap.size w w' := by
  rcases hc with rfl | rfl | rfl
  · exact is_nil 0 w
  · exact is_ev hE (k := 2) (by decide) 103
  · exact is_ev hE (k := 6) (by decide) 107
/-- The master at block b says L; its map lies from lo on. -/
def Mast (lo : Nat) (w : World) (b : Nat) (r : Option Nat) (L : List AS) : Prop :=
  ∃ m, w.cell? ⟨b, 0, none⟩ = some (.map r) ∧ w.frozen? ⟨b, 0, none⟩ = false ∧ AssetMap w r m ∧ Same m L ∧ ∀ mb, r = some mb → lo ≤ mb ∧ mb ≠ b
theorem Mast.below {lo b : Nat} {r : Option Nat} {w w' : World} {L : List AS} (h : Mast lo w b r L) (hb : Below w.heap.size w w') : Mast lo w' b r L := by
  obtain ⟨m, hc, hf, hm, hs, hr⟩ := h
  have hlt := World.block_lt_of_cell? w _ hc
  exact ⟨m, (hb.cell hlt).trans hc, (hb.frozen hlt).trans hf, hm.below hb, hs, hr⟩
theorem Mast.lt {lo b : Nat} {r : Option Nat} {w : World} {L : List AS} (h : Mast lo w b r L) : b < w.heap.size := by
  obtain ⟨m, hc, _⟩ := h
  exact World.block_lt_of_cell? w _ hc
theorem Mast.mlt {lo b : Nat} {r : Option Nat} {w : World} {L : List AS} (h : Mast lo w b r L) : ∀ g, r = some g → g < w.heap.size := by
  obtain ⟨m, hc, _, hm, _⟩ := h
  exact hm.lt
theorem Mast.mlo {lo b : Nat} {r : Option Nat} {w : World} {L : List AS} (h : Mast lo w b r L) : ∀ g, r = some g → lo ≤ g := by
  obtain ⟨m, hc, _, hm, _, h⟩ := h
  exact fun g hg => (h g hg).1
theorem Same.length {m : Assets} {L : List AS} (h : Same m L) : m.length = L.length := by
  rw [← h.all, allOf_len]
theorem mast_add {ks : List Nat} {B : Nat} {p : Nat → Addr} {w : World} (hE : Errs ks B p w) (k2 : 2 ∈ ks) (k6 : 6 ∈ ks) {lo b : Nat} {r : Option Nat} {L : List AS} (hT : Mast lo w b r L) (hlo : lo ≤ w.heap.size) (hlb : lo ≤ b) (a : AS) :
    Calls Tryd.prog 17 #[.pointer (some ⟨b, 0, none⟩), astV a] w fun e w' => e = .returned (evA p (errA L a)) ∧ ∃ r', Mast lo w' b r' (nextA L a) ∧ (r' = r ∨ ∃ nb, r' = some nb ∧ w.heap.size ≤ nb) ∧ Keep (fun x => x = b ∨ r = some x) w w' := by
  have hT0 := hT
  obtain ⟨m, hc, hf, hm, hs, hr⟩ := hT
  have hb := World.block_lt_of_cell? w _ hc
  cases hv : goodA a with
  | false =>
    refine (masterAdd_bad hE k2 _ a hv).mono ?_
    rintro e w' ⟨rfl, hb'⟩
    have e1 : errA L a = 103 := by unfold errA; rw [if_pos hv]
    have e2 : nextA L a = L := by unfold nextA; rw [if_pos hv]
    rw [e1, e2]
    exact ⟨rfl, r, hT0.below hb', .inl rfl, Keep.of_below hb'⟩
  | true =>
    have hvn : ¬ goodA a = false := by rw [hv]; simp
    have hfd := hs.find a.1
    by_cases hi : 0 ≤ findA L a.1
    · have e1 : errA L a = 107 := by unfold errA; rw [if_neg hvn, if_pos hi]
      have e2 : nextA L a = L := by unfold nextA; rw [if_neg hvn, if_pos hi]
      have hg : (mget m a.1).isSome = true := by rw [hfd]; simpa using hi
      refine (masterAdd_there hE k2 k6 hc hm a hv hg).mono ?_
      rintro e w' ⟨rfl, hb'⟩
      rw [e1, e2]
      exact ⟨rfl, r, hT0.below hb', .inl rfl, Keep.of_below hb'⟩
    · have e1 : errA L a = 0 := by unfold errA; rw [if_neg hvn, if_neg hi]
      have e2 : nextA L a = addA L a := by unfold nextA; rw [if_neg hvn, if_neg hi]
      have hg : (mget m a.1).isSome = false := by rw [hfd]; simpa using hi
      have hs' := hs.add hv (by omega)
      rw [e1, e2]
      by_cases hne : m = []
      · subst hne
        refine (masterAdd_none hE k2 hc hf hm a hv).mono ?_
        rintro e w' ⟨rfl, nb, hm', hc', hf', hnb, hk'⟩
        exact ⟨rfl, some nb, ⟨_, hc', hf', hm', hs', fun mb h => by cases h; exact ⟨Nat.le_trans hlo hnb, by have : b < w.heap.size := hb; omega⟩⟩, .inr ⟨nb, rfl, hnb⟩, hk'.mono fun _ _ h => .inl h⟩
      · obtain ⟨mb, rfl⟩ : ∃ mb, r = some mb := by
          rcases hm with ⟨_, h⟩ | ⟨mb, h, _⟩
          · exact absurd h hne
          · exact ⟨mb, h⟩
        have hmb := hr mb rfl
        refine (masterAdd_some hE k2 hc hm hne a hv hg).mono ?_
        rintro e w' ⟨rfl, hm', hk'⟩
        exact ⟨rfl, some mb, ⟨_, (hk'.cell hb (fun e => hmb.2 e.symm)).trans hc, (hk'.frozen hb (fun e => hmb.2 e.symm)).trans hf, hm', hs', hr⟩, .inl rfl, hk'.mono fun _ _ h => .inr (by rw [h])⟩
theorem mast_get {lo b : Nat} {r : Option Nat} {w : World} {L : List AS} (hT : Mast lo w b r L) (id : Int) (h1 : (Lit.int .i64 id).wf = true) :
    Calls Tryd.prog 28 #[.pointer (some ⟨b, 0, none⟩), .int .i64 id] w fun e w' => (∃ x, e = .returned (.tuple #[astV x, .bool (decide (0 ≤ findA L id))]) ∧ (0 ≤ findA L id → ∃ k : Nat, findA L id = k ∧ L[k]? = some x)) ∧ Below w.heap.size w w' := by
  obtain ⟨m, hc, hf, hm, hs, hr⟩ := hT
  refine (masterGet_calls hc hm id h1).mono ?_
  rintro e w' ⟨rfl, hb⟩
  refine ⟨⟨_, by rw [hs.find], fun h => ?_⟩, hb⟩
  obtain ⟨k, a, h1, h2, h3⟩ := findA_some h
  refine ⟨k, h1, ?_⟩
  rw [← h3, hs.get h2, h2]
theorem mast_all {lo b : Nat} {r : Option Nat} {w : World} {L : List AS} (hT : Mast lo w b r L) (hl : L.length ≤ 1000) :
    Calls Tryd.prog 19 #[.pointer (some ⟨b, 0, none⟩)] w fun e w' => ∃ v, e = .returned v ∧ OwnA 29 w.heap.size w' v L ∧ Below w.heap.size w w' := by
  obtain ⟨m, hc, hf, hm, hs, hr⟩ := hT
  refine (all_calls hc hm (by rw [hs.length]; exact hl) (fun x hx => by have := hs.own x hx; exact i64wf (by omega) (by omega))).mono ?_
  rintro e w' ⟨v, rfl, hO, hb⟩
  rw [hs.all] at hO
  exact ⟨v, rfl, hO, hb⟩
def issA (L : List AS) (iss : Int) : List Int := (L.filter fun a => decide (a.2.1 = iss)).map (·.1)
theorem mast_of {lo b : Nat} {r : Option Nat} {w : World} {L : List AS} (hT : Mast lo w b r L) (hl : L.length ≤ 1000) (iss : Int) :
    Calls Tryd.prog 20 #[.pointer (some ⟨b, 0, none⟩), .int .i64 iss] w fun e w' => ∃ v, e = .returned v ∧ OwnI 3 w.heap.size w' v (issA L iss) ∧ Below w.heap.size w w' := by
  obtain ⟨m, hc, hf, hm, hs, hr⟩ := hT
  refine (of_calls hc hm (by rw [hs.length]; exact hl) (fun x hx => by have := hs.own x hx; exact i64wf (by omega) (by omega)) iss).mono ?_
  rintro e w' ⟨v, rfl, hO, hb⟩
  unfold ofIss at hO
  rw [hs.all] at hO
  exact ⟨v, rfl, hO, hb⟩
theorem mast_new (lo : Nat) (w : World) : Mast lo (w.alloc (Obj.cells #[.map none] 27)) w.heap.size none [] :=
  ⟨[], by go_simp, by go_simp, .inl ⟨rfl, rfl⟩, Same.nil, fun mb h => by cases h⟩
end Go.Proofs.YtfecgcdceegdlaaDoor
