/- op.Parse: the kind's word; the early ends there. (Written by gen_parse.py.) -/
import Derived.Test.YtchbkceconlbkaaGreatDoorOpPar0
namespace Go.Proofs.YtchbkceconlbkaaGreatDoor
open Go Go.RowKit
set_option linter.unusedSimpArgs false
set_option linter.unusedVariables false

/-- The words ws behind address a. -/
def SRow (w : World) (a : Option Addr) (ws : List ByteArray) : Prop := ws = [] ∨ ∃ g off, a = some ⟨g, off, none⟩ ∧ g < w.heap.size ∧ ∀ (j : Nat) x, ws[j]? = some x → w.cell? ⟨g, off + j, none⟩ = some (.string x)
theorem SRow.below {w w' : World} {a : Option Addr} {ws : List ByteArray} (h : SRow w a ws) (k : Below w.heap.size w w') : SRow w' a ws := by
  rcases h with h | ⟨g, off, h1, h2, h3⟩
  · exact .inl h
  · exact .inr ⟨g, off, h1, Nat.lt_of_lt_of_le h2 k.size, fun j x hj => (k.cell (p := ⟨g, off + j, none⟩) h2).trans (h3 j x hj)⟩
theorem SRow.open {w : World} {a : Option Addr} {ws : List ByteArray} (h : SRow w a ws) (hne : 0 < ws.length) : ∃ g off, a = some ⟨g, off, none⟩ ∧ g < w.heap.size ∧ ∀ j, j < ws.length → w.cell? ⟨g, off + j, none⟩ = some (.string (ws.getD j ⟨#[]⟩)) := by
  rcases h with h | ⟨g, off, h1, h2, h3⟩
  · subst h; simp at hne
  · refine ⟨g, off, h1, h2, fun j hj => ?_⟩
    rw [h3 j ws[j] (List.getElem?_eq_getElem hj)]
    simp [List.getD, hj]
theorem indexNames_calls (w : World) (x : ByteArray) :
    Calls Tryz.prog 46 #[.slice (some ⟨w.heap.size, 0, none⟩) 16 16, .string x] (w.alloc (.cells (row16 wordB) 9)) fun e w' => e = .returned (.int .i64 ((kindOf x : Int) - 1)) ∧ w' = w.alloc (.cells (row16 wordB) 9) := by
  refine (Any.slices_Index_string Tryz.laysIndexS w.heap.size 0 16 16 namesL x _ (by decide) (by decide) (fun j hj => ?_)).mono ?_
  · rw [Nat.zero_add, row16_cell w wordB 9 hj]
    have hj16 : j < 16 := hj
    have e : namesL.getD j ByteArray.empty = wordB (j + 1) := by simp [namesL, List.getD, hj16]
    rw [e]
  · rintro e w' ⟨rfl, rfl⟩
    refine ⟨?_, rfl⟩
    rw [show namesL.take 16 = namesL from rfl, (kindOf_idx x).1]
theorem names2_calls {B : Nat} {w : World} (hT : OpW B w) :
    Calls Tryz.prog 30 #[] w fun e w' => e = .returned (.slice (some ⟨w.heap.size, 0, none⟩) 16 16) ∧ Below w.heap.size w w' ∧ ∀ x, Calls Tryz.prog 46 #[.slice (some ⟨w.heap.size, 0, none⟩) 16 16, .string x] w' fun e w'' => e = .returned (.int .i64 ((kindOf x : Int) - 1)) ∧ w' = w'' := by
  refine (names_calls hT).mono ?_
  rintro e w' ⟨rfl, rfl⟩
  refine ⟨rfl, (Below.refl _ _).alloc (Nat.le_refl _) _, fun x => (indexNames_calls w x).mono ?_⟩
  rintro e w'' ⟨rfl, rfl⟩
  exact ⟨rfl, rfl⟩

set_option maxHeartbeats 4000000 in
set_option maxRecDepth 100000 in
theorem parse_kind {B : Nat} {p : Nat → Addr} {w : World} (hE : Errs (List.range 21) B p w) (hT : ParW B w) (a : Option Addr) (cap : Nat) (ws : List ByteArray) (hR : SRow w a ws) (hn : 2 ≤ ws.length) (hn2 : ws.length ≤ 140737488355328)
    (hbad : kindW ws = 0 ∨ ws.length ≠ 2 + (usesL (kindW ws)).length) :
    Calls Tryz.prog 17 #[.slice a ws.length cap] w fun e w' => e = .returned (.tuple #[opV 0 0 0 0 0 0 0 0, ev p 17]) ∧ Below w.heap.size w w' := by
  obtain ⟨g, off, rfl, hgs, hcell⟩ := hR.open (by omega)
  have hx := hcell 1 (by omega)
  clear hR hcell
  have hBw := hE.size
  have hE0 := Lib.hid hE
  have hT0 := Lib.hid hT
  clear hE hT
  have hk16 := (kindOf_idx (ws.getD 1 ⟨#[]⟩)).2
  change kindW ws ≤ 16 at hk16
  have hkw : kindOf (ws.getD 1 ⟨#[]⟩) = kindW ws := rfl
  have HU := Lib.hid (fun (w' : World) (h : OpW B w') (h1 : 1 ≤ kindW ws) => uses_calls h (k := (kindW ws : Int)) (by omega) (by omega))
  have hul : (usesL (kindW ws)).length = (usesB (kindW ws)).size := rfl
  rw [hul] at hbad
  simp only [Int.toNat_natCast] at HU
  have hus := uses_size (kindW ws)
  generalize usesB (kindW ws) = u at hbad HU hus
  clear hul
  generalize kindW ws = k at hkw hk16 hbad HU
  generalize ws.getD 1 ⟨#[]⟩ = x at hx hkw
  generalize ws.length = n at hn hn2 hbad ⊢
  have hd : decide ((n : Int) < 2) = false := decide_eq_false (by omega)
  have hR := there_new w #[.int .i64 0, .int .i64 0, .int .i64 0, .int .i64 0, .int .i64 0, .int .i64 0, .int .i64 0, .int .i64 0] 23 8 (by decide)
  have HB : Below w.heap.size w (w.alloc (Obj.cells #[.int .i64 0, .int .i64 0, .int .i64 0, .int .i64 0, .int .i64 0, .int .i64 0, .int .i64 0, .int .i64 0] 23)) := (Below.refl _ _).alloc (Nat.le_refl _) _
  have hx := (HB.cell (p := ⟨g, off + 1, none⟩) hgs).trans hx
  have hs : w.heap.size < (w.alloc (Obj.cells #[.int .i64 0, .int .i64 0, .int .i64 0, .int .i64 0, .int .i64 0, .int .i64 0, .int .i64 0, .int .i64 0] 23)).heap.size := by simp
  have HE := Lib.hid (hE0.out.below (HB.mono hE0.out.size))
  have HT := Lib.hid (hT0.out.on HB)
  have hgs' : g < (w.alloc (Obj.cells #[.int .i64 0, .int .i64 0, .int .i64 0, .int .i64 0, .int .i64 0, .int .i64 0, .int .i64 0, .int .i64 0] 23)).heap.size := by omega
  clear hE0 hT0
  go_enter Tryz.func17, Tryz.ntmps17
  go_wp2_with fail
  generalize w.alloc (Obj.cells #[.int .i64 0, .int .i64 0, .int .i64 0, .int .i64 0, .int .i64 0, .int .i64 0, .int .i64 0, .int .i64 0] 23) = W1 at hR HB hx hs HE HT hgs' ⊢
  have HRH := Lib.hid hR
  clear hR
  have hk1 : (1 : Int) < (n : Int) := by omega
  have hwk : IntKind.i64.wrap (k : Int) = k := IntWalk.i64_in _ (by omega)
  go_region_held3 (fun w1 => w1.cell? ⟨g, off + 1, none⟩ = some (.string x) ∧ g < w1.heap.size)
    (((repeat' apply And.intro) <;> (first | (exact hB.trans (hb.mono (by omega))) | (have hsz := hb.size; omega) | (rw [hb.cell (p := ⟨_, _, none⟩) (by first | assumption | (simp; done))]; assumption) | assumption | (simp [*]; done)))) (first | (go_at_call 30; obtain ⟨hx1, hg1⟩ := ‹_ ∧ _›; refine (names2_calls (HT.out.on (Below.refl _ _).drew).op).mono ?_; rintro e w2 ⟨rfl, hb, hidx⟩; have HB2 := Lib.hid (HB.drew.trans (hb.mono HB.size)); have HR2 := Lib.hid (World.there.below ((World.there_drew _ _ _ _).2 HRH.out) hs hb); have HE2 := Lib.hid (HE.out.below (((Below.refl _ _).drew.trans hb).mono HE.out.size)); have HT2 := Lib.hid (HT.out.on ((Below.refl _ _).drew.trans hb)); have hs2 := hb.size) | (go_at_call 46; have hidx2 := hidx x; rw [hkw] at hidx2; refine hidx2.mono ?_; rintro e w3 ⟨rfl, rfl⟩))
  have hs3 : w.heap.size < w2.heap.size := by have h : W1.drew.heap.size = W1.heap.size := rfl; omega
  clear hidx hidx2 hb HB HE HT HRH hx1 hg1 hs2 hs hx hgs'
  by_cases hk : k = 0
  · subst hk
    go_wp2_with fail
    have hg := HE2.out.cell 17 (by decide)
    change w2.cell? ⟨4, 0, none⟩ = some (ev p 17) at hg
    have hgl0 : 4 < w.heap.size := Nat.lt_of_lt_of_le (HE2.out.lt 17 (by decide)).1 hBw
    have hne : ¬ 4 = w.heap.size := by omega
    have hR := HR2.out
    have HB := HB2.out
    have hgl : 4 < w2.drew.heap.size := Nat.lt_of_lt_of_le hgl0 HB.size
    have hs : w.heap.size < w2.heap.size := hs3
    clear HE2 HR2 HB2
    refine wp_region_held_drew (S := (fun w1 => w1.cell? ⟨4, 0, none⟩ = some (ev p 17))) (by kernel_rfl) hg (fun hHeld => ?_)
    refine wpAnyH_take (i := 0) (v := (.agg #[.int .i64 0, .int .i64 0, .int .i64 0, .int .i64 0, .int .i64 0, .int .i64 0, .int .i64 0, .int .i64 0])) rfl (by kernel_rfl) (by kernel_rfl) (by kernel_rfl) (fun _ _ _ h => h) (Or.inl ⟨by rfl, fun w hSw => by (go_simp)⟩) hHeld ?_
    (try simp only [Act.put, List.getElem_toArray, List.getElem_cons_succ, List.getElem_cons_zero, List.setIfInBounds_toArray, List.set_cons_zero, List.set_cons_succ])
    refine wpAnyH_take (i := 1) (v := (ev p 17)) rfl (by kernel_rfl) (by kernel_rfl) (by kernel_rfl) (fun _ _ _ h => h) (Or.inl ⟨by rfl, fun w hSw => by (have hSw2 := hSw; go_simp)⟩) hHeld ?_
    (try simp only [Act.put, List.getElem_toArray, List.getElem_cons_succ, List.getElem_cons_zero, List.setIfInBounds_toArray, List.set_cons_zero, List.set_cons_succ])
    refine wpAnyH_ready (rs := [2]) (by kernel_rfl) (by simp) ?_
    refine AllReadyH.cons rfl (fun K hK => ?_) AllReadyH.nil
    rw [if_pos (by kernel_rfl)]
    refine wp_store_mid 23 _ _ rfl w.heap.size 0 (#[.int .i64 0, .int .i64 0, .int .i64 0, .int .i64 0, .int .i64 0, .int .i64 0, .int .i64 0, .int .i64 0]) rfl rfl ((World.there_drew _ _ _ _).2 hR) (by kernel_rfl) (by simp [Value.oneCell']) ?_
    refine hK.out _ _ ?_ (fun hHeld2 => ?_)
    · exact (show _ from ((keep_setCells w2.drew w.heap.size _ 0).cell (x := ⟨4, 0, none⟩) hgl hne).trans hg)
    clear hHeld hK K
    have hHeld := hHeld2
    clear hHeld2
    (try simp only [Act.put, List.getElem_toArray, List.getElem_cons_succ, List.getElem_cons_zero, List.setIfInBounds_toArray, List.set_cons_zero, List.set_cons_succ])
    refine wpAnyH_take (i := 3) (v := (ev p 17)) rfl (by kernel_rfl) (by kernel_rfl) (by kernel_rfl) (fun _ _ _ h => h) (Or.inl ⟨by rfl, fun w hSw => by (go_simp)⟩) hHeld ?_
    (try simp only [Act.put, List.getElem_toArray, List.getElem_cons_succ, List.getElem_cons_zero, List.setIfInBounds_toArray, List.set_cons_zero, List.set_cons_succ])
    refine wpAnyH_done (by kernel_rfl) ?_ _
    obtain ⟨W2, hW2⟩ : ∃ W2, W2 = w2.drew.setCells w.heap.size 0 zero8 := ⟨_, rfl⟩
    have hB2 : Below w.heap.size w W2 := by rw [hW2]; exact HB.drew.trans ((keep_setCells w2.drew w.heap.size zero8 0).below (Nat.le_of_lt hs) (fun j hj e => by omega))
    have hc : W2.rangeAt w.heap.size 0 zero8 := by rw [hW2]; exact World.rangeAt_setCells_same _ _ _ _ ((World.there_drew _ _ _ _).2 hR)
    rw [← hW2]
    have c0 := hc 0 _ rfl; have c1 := hc 1 _ rfl; have c2 := hc 2 _ rfl; have c3 := hc 3 _ rfl; have c4 := hc 4 _ rfl; have c5 := hc 5 _ rfl; have c6 := hc 6 _ rfl; have c7 := hc 7 _ rfl
    clear hW2 hHeld hg hR hc
    go_wp2_with fail
    exact bodyPost_ret (v := .tuple #[opV 0 0 0 0 0 0 0 0, ev p 17]) (by simp [results, Tryz.results17, go_sem, c0, c1, c2, c3, c4, c5, c6, c7]) rfl ⟨rfl, hB2⟩
  · have hnu : n ≠ 2 + u.size := hbad.resolve_left hk
    have hkd : ((k : Int) == 0) = false := by simp; omega
    have hsub : IntKind.i64.wrap ((n : Int) - 2) = (n : Int) - 2 := IntWalk.i64_in _ (by omega)
    have hcmp : (((n : Int) - 2) != (u.size : Int)) = true := by simp; omega
    have HC := HU.out w2 HT2.out.op (by omega)
    go_wp2_with fail
    refine HC.mono ?_
    rintro e w3 ⟨rfl, hb⟩
    have HR3 := Lib.hid (World.there.below HR2.out hs3 hb)
    have HE3 := Lib.hid (HE2.out.below (hb.mono HE2.out.size))
    have HB3 := Lib.hid (bbase HB2.out hb)
    have hs4 : w.heap.size < w3.heap.size := by have := hb.size; omega
    clear hb HR2 HE2 HB2
    go_wp2_with fail
    have hg := HE3.out.cell 17 (by decide)
    change w3.cell? ⟨4, 0, none⟩ = some (ev p 17) at hg
    have hgl0 : 4 < w.heap.size := Nat.lt_of_lt_of_le (HE3.out.lt 17 (by decide)).1 hBw
    have hne : ¬ 4 = w.heap.size := by omega
    have hR := HR3.out
    have HB := HB3.out
    have hgl : 4 < w3.drew.heap.size := Nat.lt_of_lt_of_le hgl0 HB.size
    have hs : w.heap.size < w3.heap.size := hs4
    clear HE3 HR3 HB3
    refine wp_region_held_drew (S := (fun w1 => w1.cell? ⟨4, 0, none⟩ = some (ev p 17))) (by kernel_rfl) hg (fun hHeld => ?_)
    refine wpAnyH_take (i := 0) (v := (.agg #[.int .i64 0, .int .i64 0, .int .i64 0, .int .i64 0, .int .i64 0, .int .i64 0, .int .i64 0, .int .i64 0])) rfl (by kernel_rfl) (by kernel_rfl) (by kernel_rfl) (fun _ _ _ h => h) (Or.inl ⟨by rfl, fun w hSw => by (go_simp)⟩) hHeld ?_
    (try simp only [Act.put, List.getElem_toArray, List.getElem_cons_succ, List.getElem_cons_zero, List.setIfInBounds_toArray, List.set_cons_zero, List.set_cons_succ])
    refine wpAnyH_take (i := 1) (v := (ev p 17)) rfl (by kernel_rfl) (by kernel_rfl) (by kernel_rfl) (fun _ _ _ h => h) (Or.inl ⟨by rfl, fun w hSw => by (have hSw2 := hSw; go_simp)⟩) hHeld ?_
    (try simp only [Act.put, List.getElem_toArray, List.getElem_cons_succ, List.getElem_cons_zero, List.setIfInBounds_toArray, List.set_cons_zero, List.set_cons_succ])
    refine wpAnyH_ready (rs := [2]) (by kernel_rfl) (by simp) ?_
    refine AllReadyH.cons rfl (fun K hK => ?_) AllReadyH.nil
    rw [if_pos (by kernel_rfl)]
    refine wp_store_mid 23 _ _ rfl w.heap.size 0 (#[.int .i64 0, .int .i64 0, .int .i64 0, .int .i64 0, .int .i64 0, .int .i64 0, .int .i64 0, .int .i64 0]) rfl rfl ((World.there_drew _ _ _ _).2 hR) (by kernel_rfl) (by simp [Value.oneCell']) ?_
    refine hK.out _ _ ?_ (fun hHeld2 => ?_)
    · exact (show _ from ((keep_setCells w3.drew w.heap.size _ 0).cell (x := ⟨4, 0, none⟩) hgl hne).trans hg)
    clear hHeld hK K
    have hHeld := hHeld2
    clear hHeld2
    (try simp only [Act.put, List.getElem_toArray, List.getElem_cons_succ, List.getElem_cons_zero, List.setIfInBounds_toArray, List.set_cons_zero, List.set_cons_succ])
    refine wpAnyH_take (i := 3) (v := (ev p 17)) rfl (by kernel_rfl) (by kernel_rfl) (by kernel_rfl) (fun _ _ _ h => h) (Or.inl ⟨by rfl, fun w hSw => by (go_simp)⟩) hHeld ?_
    (try simp only [Act.put, List.getElem_toArray, List.getElem_cons_succ, List.getElem_cons_zero, List.setIfInBounds_toArray, List.set_cons_zero, List.set_cons_succ])
    refine wpAnyH_done (by kernel_rfl) ?_ _
    obtain ⟨W2, hW2⟩ : ∃ W2, W2 = w3.drew.setCells w.heap.size 0 zero8 := ⟨_, rfl⟩
    have hB2 : Below w.heap.size w W2 := by rw [hW2]; exact HB.drew.trans ((keep_setCells w3.drew w.heap.size zero8 0).below (Nat.le_of_lt hs) (fun j hj e => by omega))
    have hc : W2.rangeAt w.heap.size 0 zero8 := by rw [hW2]; exact World.rangeAt_setCells_same _ _ _ _ ((World.there_drew _ _ _ _).2 hR)
    rw [← hW2]
    have c0 := hc 0 _ rfl; have c1 := hc 1 _ rfl; have c2 := hc 2 _ rfl; have c3 := hc 3 _ rfl; have c4 := hc 4 _ rfl; have c5 := hc 5 _ rfl; have c6 := hc 6 _ rfl; have c7 := hc 7 _ rfl
    clear hW2 hHeld hg hR hc
    go_wp2_with fail
    exact bodyPost_ret (v := .tuple #[opV 0 0 0 0 0 0 0 0, ev p 17]) (by simp [results, Tryz.results17, go_sem, c0, c1, c2, c3, c4, c5, c6, c7]) rfl ⟨rfl, hB2⟩

end Go.Proofs.YtchbkceconlbkaaGreatDoor
