/- pledgelaw5.first: the chapter's examples hold. -/
import Derived.Test.YtehacchacgfjlaaDoorCrash
namespace Go.Proofs.YtehacchacgfjlaaDoor
open Go.Maps
open Go Go.RowKit
set_option linter.unusedSimpArgs false
set_option linter.unusedVariables false

theorem secNow_put (F P : SecL) (i j : Int) (v : Value) (bs : List Int) : secNow F (mput P i (v, bs)) j = if j = i then bs else secNow F P j := by
  unfold secNow
  by_cases h : j = i
  · subst h; rw [mget_mput_same, if_pos rfl]; rfl
  · rw [mget_mput_other _ _ h, if_neg h]
theorem secNow_nil (F : SecL) (j : Int) : secNow F [] j = secOf F j := rfl
theorem mput_nil (i : Int) (x : Value × List Int) : mput ([] : SecL) i x = [(i, x)] := rfl
/-- A list without double ones, all below n. -/
theorem nodup_len : ∀ (n : Nat) (l : List Nat), l.Nodup → (∀ x ∈ l, x < n) → l.length ≤ n := by
  intro n
  induction n with
  | zero =>
    intro l _ h
    cases l with
    | nil => simp
    | cons x l => exact absurd (h x (by simp)) (by omega)
  | succ n ih =>
    intro l hn h
    by_cases hm : n ∈ l
    · have h1 := ih (l.erase n) (hn.erase n) (fun x hx => by
        have h2 := h x (List.mem_of_mem_erase hx)
        have h3 : x ≠ n := fun e => by subst e; exact (hn.mem_erase_iff.1 hx).1 rfl
        omega)
      rw [List.length_erase_of_mem hm] at h1
      omega
    · have := ih l hn (fun x hx => by
        have h2 := h x hx
        have h3 : x ≠ n := fun e => hm (e ▸ hx)
        omega)
      omega
/-- Sectors whose numbers are below n. -/
def SecIn (n : Nat) (m : SecL) : Prop := ∀ x ∈ m, 0 ≤ x.1 ∧ x.1 < (n : Int)
theorem SecIn.len {n : Nat} {m : SecL} {w : World} {r : Nat} (h : SecIn n m) (hm : SecMap w r m) : m.length ≤ n := by
  have h1 := hm.map.nodup
  have h2 : ((m.map (·.1)).map Int.toNat).Nodup := by
    refine List.pairwise_map.2 (List.Pairwise.imp_of_mem (fun {a b} ha hb hne e => hne ?_) h1)
    obtain ⟨x, hx, rfl⟩ := List.mem_map.1 ha
    obtain ⟨y, hy, rfl⟩ := List.mem_map.1 hb
    have := h x hx
    have := h y hy
    omega
  have h3 := nodup_len n _ h2 (fun z hz => by
    obtain ⟨a, ha, rfl⟩ := List.mem_map.1 hz
    obtain ⟨x, hx, rfl⟩ := List.mem_map.1 ha
    have := h x hx
    omega)
  simpa using h3
theorem SecIn.wf {n : Nat} {m : SecL} (h : SecIn n m) (hn : n ≤ 8192) : ∀ x ∈ m, (Lit.int .i64 x.1).wf = true := fun x hx => by
  have := h x hx
  exact i64wf (by omega) (by omega)
theorem SecIn.put {n : Nat} {m : SecL} (h : SecIn n m) {i : Int} {x : Value × List Int} (h0 : 0 ≤ i) (h1 : i < (n : Int)) : SecIn n (mput m i x) := fun y hy => by
  rcases mem_mput hy with rfl | hy
  · exact ⟨h0, h1⟩
  · exact h y hy
theorem SecIn.nil (n : Nat) : SecIn n [] := fun x hx => by cases hx
theorem keysS_one (i : Int) (x : Value × List Int) : keysS [(i, x)] = [i] := by simp [keysS, List.mergeSort]
theorem OwnB.cells {base : Nat} {w : World} {v : Value} {bs : List Int} (h : OwnB base w v bs) (hne : 0 < bs.length) : ∃ g cap, v = .slice (some ⟨g, 0, none⟩) bs.length cap ∧ base ≤ g ∧ g < w.heap.size ∧ bs.length ≤ cap ∧ cap ≤ maxLen ∧ (∀ i, i < bs.length → w.cell? ⟨g, i, none⟩ = some (bV (bs.getD i 0))) ∧ w.frozen? ⟨g, 0, none⟩ = false := by
  have h0 := h
  rcases h.2 with ⟨_, h2⟩ | ⟨g, cap, cur, rfl, hb, hg, h3, h4, h5, h6⟩
  · omega
  · refine ⟨g, cap, rfl, hb, (Array.getElem?_eq_some_iff.1 hg).1, h3, h4, fun i hi => ?_, by simp [World.frozen?, hg]⟩
    rw [World.ownsRow.cellAt h0 i (by omega)]
    simp [hi, List.getD]
set_option maxHeartbeats 4000000 in
set_option maxRecDepth 100000 in
theorem first5_calls (w : World) : Calls Tryd.prog 15 #[] w fun e w' => e = .returned (.bool true) ∧ Below w.heap.size w w' := by
  go_enter Tryd.func15, Tryd.ntmps15
  go_wp2_with fail
  refine (new_calls 2 (by decide) (by decide) w).mono ?_
  rintro e w1 ⟨rfl, hD1, hb1⟩
  have HD1 := Lib.hid hD1
  have HB1 := Lib.hid hb1
  have hd := hD1.lt
  clear hD1 hb1
  go_wp2_with fail
  refine (whole_calls 1 w1).mono ?_
  rintro e w2 ⟨rfl, hR2, hb2⟩
  have HD2 := Lib.hid (HD1.out.below hb2)
  have HR2 := Lib.hid (rowIs_rd hR2)
  have HB2 : Hid (Below w.heap.size w w2) := HB1.out.trans (hb2.mono HB1.out.size)
  have hs2 := hb2.size
  clear hR2 hb2 HD1
  go_wp2_with fail
  refine (write_ok HD2.out (by decide) rfl 0 (by decide) (by decide) (by decide) (by decide) HR2.out (by simp) (by intro g hg; simp only [Value.ownBlock, Option.some.injEq] at hg; omega)).mono ?_
  rintro e w3 ⟨rfl, v3, hD3, _, hk3⟩
  rw [show goneF 0 false = 0 from rfl] at hD3
  have HD3 := Lib.hid hD3
  have HB3 : Hid (Below w.heap.size w w3) := HB2.out.trans (hk3.below (by have := HB1.out.size; omega) (fun z hz e => by omega))
  clear hD3 hk3 HD2
  have hs1 := HB1.out.size
  have hb4 : Below w3.heap.size w3 (w3.alloc (.cells #[.int .i64 17] 3)) := (Below.refl _ _).alloc (Nat.le_refl _) _
  have HD4 := Lib.hid (HD3.out.below hb4)
  have HB4 : Hid (Below w.heap.size w (w3.alloc (.cells #[.int .i64 17] 3))) := HB3.out.trans (hb4.mono HB3.out.size)
  have hd4 := HD4.out.lt
  have hs3 := HB3.out.size
  have hd3 := HD3.out.lt
  clear hb4
  go_wp2_with fail
  refine (crash_calls HD4.out (by simp; omega) (fun x hx => by rw [mput_nil, List.mem_singleton] at hx; subst hx; rfl) (by rw [mput_nil]; simp) (qs := [17]) (.inr ⟨w3.heap.size, 0, 1, rfl, by decide, by decide, by simp, fun i hi => ?_⟩) (by intro q hq; simp at hq; subst hq; decide)).mono ?_
  · obtain rfl : i = 0 := by simpa using hi
    go_simp
  rintro e w5 ⟨rfl, F', pb', hD5, hF5, _, _, hk5⟩
  have HF5 : Hid (secNow F' [] 0 = List.replicate 5 1 ++ List.replicate 123 0) := by
    unfold Hid
    rw [secNow_nil, hF5 0]
    have e1 : mput ([] : SecL) 0 (v3, List.replicate 128 1) = [(0, (v3, List.replicate 128 1))] := rfl
    rw [e1, keysS_one]
    have e2 : secOf [(0, (v3, List.replicate 128 1))] 0 = List.replicate 128 1 := rfl
    simp only [crashTo, if_true, e2]
    rfl
  have HD5 := Lib.hid hD5
  have HB5 : Hid (Below w.heap.size w w5) := HB4.out.trans (hk5.below (by simp; omega) (fun z hz e => by omega))
  clear hD5 hF5 hk5 HD4
  go_wp2_with fail
  refine (read_ok HD5.out 0 (by decide) (by decide) (by decide)).mono ?_
  rintro e w6 ⟨v6, rfl, hO, hlen, hb6⟩
  rw [HF5.out] at hO
  obtain ⟨g, cap, rfl, hg1, hg2, hg3, hg4, hg5, hg6⟩ := hO.cells (by decide)
  have d4 := hg5 4 (by decide)
  have d5 := hg5 5 (by decide)
  have hL : (List.replicate 5 (1 : Int) ++ List.replicate 123 0).length = 128 := by decide
  have hL4 : (List.replicate 5 (1 : Int) ++ List.replicate 123 0).getD 4 0 = 1 := by decide
  have hL5 : (List.replicate 5 (1 : Int) ++ List.replicate 123 0).getD 5 0 = 0 := by decide
  rw [hL] at hg3 ⊢
  rw [hL4] at d4
  rw [hL5] at d5
  have HB6 : Hid (Below w.heap.size w w6) := HB5.out.trans (hb6.mono HB5.out.size)
  clear hg5 hO hlen hb6 hL hL4 hL5
  unfold maxLen at hg4
  go_wp2_with fail
  go_ret
  exact ⟨rfl, HB6.out⟩
end Go.Proofs.YtehacchacgfjlaaDoor
