/- (*disk.Disk).Flush: where it is done. -/
import Derived.Test.YtehacchacgfjlaaDoorDisk8
import Derived.StillTailTactics
namespace Go.Proofs.YtehacchacgfjlaaDoor
open Go.Maps
open Go Go.RowKit
set_option linter.unusedSimpArgs false
set_option linter.unusedVariables false

section
variable {lo : Nat} {w w' : World} {d : Nat} {n : Int} {fb pb : Nat} {F P : SecL} {calls fuse : Int} {down : Bool}
set_option maxHeartbeats 2000000 in
set_option maxRecDepth 100000 in
theorem flush_ok (h : Dsk lo w d n fb pb F P calls fuse down) (hfu : fuse ≤ 4611686018427387904) (hG : goneD fuse down = false) (hcb : 0 ≤ calls ∧ calls ≤ 1000000) (hk : ∀ x ∈ P, (Lit.int .i64 x.1).wf = true) (hlo : lo ≤ w.heap.size) :
    Calls Tryd.prog 23 #[.pointer (some ⟨d, 0, none⟩)] w fun e w' => e = .returned .nilIface ∧ ∃ F' pb', Dsk lo w' d n fb pb' F' [] (calls + 1) (goneF fuse down) false ∧ (∀ i, mget F' i = (mget P i).or (mget F i)) ∧ (∀ x ∈ F', x ∈ F ∨ x ∈ P) ∧ w.heap.size ≤ pb' ∧ Keep (fun x => x = d ∨ x = fb) w w' := by
  have HD := Lib.hid h
  have HKy := Lib.hid hk
  have hmm := @run_makeMap Tryd.prog
  have HG := Lib.hid hG
  clear h hk hG
  go_enter Tryd.func23, Tryd.ntmps23
  go_wp2_with fail
  refine (gone_calls HD.out hfu).mono ?_
  rintro e w1 ⟨rfl, hD1, hk1⟩
  rw [HG.out] at hD1 ⊢
  obtain ⟨fu, hfu'⟩ : ∃ fu, fu = goneF fuse down := ⟨_, rfl⟩
  rw [← hfu'] at hD1
  have HFU := Lib.hid hfu'
  clear hfu'
  have c1 := hD1.c1
  have c2 := hD1.c2
  have HD1 : Hid (Dsk lo w1.drew d n fb pb F P calls fu false) := hD1.below (Below.refl _ _).drew
  have HK1 := Lib.hid hk1
  clear hD1 hk1
  go_wp2_with fail
  (refine wp_region_still_tail 8 (by kernel_rfl) (by kernel_rfl) ?_; simp only [List.take_succ_cons, List.take_zero, List.drop_succ_cons, List.drop_zero]; change wpStill _ _ (World.drew _) _ _ _; (repeat still_step); refine wpStill_nil ?_; change wpList _ _ _ _ _ (World.drew _))
  go_wp2_with fail
  refine (copy_calls HD1.out.fl HD1.out.pe HD1.out.ne.1 HKy.out).mono ?_
  rintro e w2 ⟨rfl, F', hF2, hG', hA, hk2⟩
  have hd1 := HD1.out.lt
  have hnf : ¬ d = fb := fun e => HD1.out.ne.2.1 e.symm
  have hc : ∀ o u, w1.drew.cell? ⟨d, o, none⟩ = some u → w2.cell? ⟨d, o, none⟩ = some u := fun o u hu => (hk2.cell (x := ⟨d, o, none⟩) hd1 hnf).trans hu
  have hfr : ∀ o, w2.frozen? ⟨d, o, none⟩ = false := fun o => (hk2.frozen (x := ⟨d, o, none⟩) hd1 hnf).trans (HD1.out.free o)
  have k0 := hc _ _ HD1.out.c0
  have k1 := hc _ _ HD1.out.c1
  have k2 := hc _ _ HD1.out.c2
  have k3 := hc _ _ HD1.out.c3
  have k4 := hc _ _ HD1.out.c4
  have k5 := hc _ _ HD1.out.c5
  have f2 := hfr 2
  have f3 := hfr 3
  have HFr := Lib.hid hfr
  have HF2 := Lib.hid hF2
  have HG' := Lib.hid hG'
  have HA := Lib.hid hA
  have HK2 := Lib.hid hk2
  have hs2 := hk2.size
  have hnb2 : NoByte w2 d := HD1.out.nb.of_cell fun o => hk2.cell (x := ⟨d, o, none⟩) hd1 hnf
  have HNB2 := Lib.hid hnb2
  clear hnb2
  have hd2 : d < w2.heap.size := Nat.lt_of_lt_of_le hd1 hs2
  clear hc hfr hF2 hG' hA hk2 c1 c2
  go_wp2_with fail
  go_ret
  have h1 := HD1.out
  have hs0 := HK1.out.size
  have hs1 : w1.heap.size ≤ w2.heap.size := hs2
  have hfl := HF2.out.map.lt fb rfl
  obtain ⟨w4, hw4⟩ : ∃ w4, w4 = (w2.setCell ⟨d, 2, none⟩ (.map (some w2.heap.size))).setCell ⟨d, 3, none⟩ (.int .i64 (calls + 1)) := ⟨_, rfl⟩
  have hk4 : Keep (fun x => x = d) w2 w4 := by rw [hw4]; exact Keep.trans (S := fun x => x = d) (keep_setCell w2 ⟨d, 2, none⟩ _) (keep_setCell _ ⟨d, 3, none⟩ _)
  have hz4 : w4.heap.size = w2.heap.size := by rw [hw4]; simp [World.setCell]
  have e0 : w4.cell? ⟨d, 0, none⟩ = some (.int .i64 n) := by rw [hw4, cell_setCell_other (by decide), cell_setCell_other (by decide)]; exact k0
  have e1 : w4.cell? ⟨d, 1, none⟩ = some (.map (some fb)) := by rw [hw4, cell_setCell_other (by decide), cell_setCell_other (by decide)]; exact k1
  have e2 : w4.cell? ⟨d, 2, none⟩ = some (.map (some w2.heap.size)) := by rw [hw4, cell_setCell_other (by decide)]; exact World.cell?_setCell_same' w2 _ _ (by rw [k2]; rfl)
  have e3 : w4.cell? ⟨d, 3, none⟩ = some (.int .i64 (calls + 1)) := by rw [hw4]; exact World.cell?_setCell_same' _ _ _ (by rw [cell_setCell_other (by decide), k3]; rfl)
  have e4 : w4.cell? ⟨d, 4, none⟩ = some (.int .i64 fu) := by rw [hw4, cell_setCell_other (by decide), cell_setCell_other (by decide)]; exact k4
  have e5 : w4.cell? ⟨d, 5, none⟩ = some (.bool false) := by rw [hw4, cell_setCell_other (by decide), cell_setCell_other (by decide)]; exact k5
  have ef : ∀ o, w4.frozen? ⟨d, o, none⟩ = false := fun o => by rw [hw4, frozen_setCell, frozen_setCell]; exact HFr.out o
  have HNB : Hid (NoByte w4 d) := by unfold Hid; rw [hw4]; exact (HNB2.out.set (by intro x e; cases e)).set (by intro x e; cases e)
  rw [← hw4, ← HFU.out]
  have hb5 : Below w4.heap.size w4 (w4.alloc (Obj.map #[] 0)) := (Below.refl _ _).alloc (Nat.le_refl _) _
  have hd4 : d < w4.heap.size := by omega
  have hc5 : ∀ o u, w4.cell? ⟨d, o, none⟩ = some u → (w4.alloc (Obj.map #[] 0)).cell? ⟨d, o, none⟩ = some u := fun o u hu => (hb5.cell (p := ⟨d, o, none⟩) hd4).trans hu
  have hk5 : Keep (fun x => x = d) w2 (w4.alloc (Obj.map #[] 0)) := hk4.trans (Keep.of_below hb5)
  have hpe : MapV Tryd.prog 3 i64V secV (w4.alloc (Obj.map #[] 0)) (some w2.heap.size) [] := .inr ⟨_, rfl, by
    have := MapAt.made (β := Value × List Int) (P := Tryd.prog) (K := 3) (kv := i64V) (vv := secV) w4
    rwa [hz4] at this⟩
  refine ⟨rfl, F', w2.heap.size, ⟨hc5 _ _ e0, hc5 _ _ e1, hc5 _ _ e2, hc5 _ _ e3, hc5 _ _ e4, hc5 _ _ e5, fun o => (hb5.frozen (p := ⟨d, o, none⟩) hd4).trans (ef o), HF2.out.keep hk5 h1.ne.2.1 (fun x hx g hg => h1.ap x (HA.out x hx) g hg), ⟨hpe, fun x hx => by cases hx⟩, ⟨h1.lo_.1, h1.lo_.2.1, by omega⟩, ⟨by omega, h1.ne.2.1, by omega⟩, fun x hx g hg => ?_, NoByte.of_cell (HNB.out) fun o => hb5.cell (p := ⟨d, o, none⟩) hd4⟩, HG'.out, HA.out, ?_, ?_⟩
  · rcases hx with hx | hx
    · exact h1.ap x (HA.out x hx) g hg
    · cases hx
  · have : w1.drew.heap.size = w1.heap.size := rfl
    omega
  · exact (((HK1.out.mono fun _ _ h => .inl h).trans (Keep.of_below (show Below w1.heap.size w1 w1.drew from (Below.refl _ _).drew))).trans (HK2.out.mono fun _ _ h => .inr h)).trans (hk5.mono fun _ _ h => .inl h)
end
end Go.Proofs.YtehacchacgfjlaaDoor
