/- op.made: an operation of its fields. (Written by gen_parse.py.) -/
import Derived.Test.YtchbkceconlbkaaGreatDoorOpPar0
namespace Go.Proofs.YtchbkceconlbkaaGreatDoor
open Go Go.RowKit
set_option linter.unusedSimpArgs false
set_option linter.unusedVariables false

set_option maxHeartbeats 4000000 in
set_option maxRecDepth 100000 in
theorem made_calls {w : World} (id k : Int) (g off cap : Nat) (f : Nat → Int) (hgs : g < w.heap.size) (hcell : ∀ j, j < 6 → w.cell? ⟨g, off + j, none⟩ = some (.int .i64 (f j))) :
    Calls Tryz.prog 40 #[.int .i64 id, .int .i64 k, .slice (some ⟨g, off, none⟩) 6 cap] w fun e w' => e = .returned (opV id k (f 0) (f 1) (f 2) (f 3) (f 4) (f 5)) ∧ Below w.heap.size w w' := by
  have hR := there_new w #[.int .i64 0, .int .i64 0, .int .i64 0, .int .i64 0, .int .i64 0, .int .i64 0, .int .i64 0, .int .i64 0] 23 8 (by decide)
  have HB : Below w.heap.size w (w.alloc (Obj.cells #[.int .i64 0, .int .i64 0, .int .i64 0, .int .i64 0, .int .i64 0, .int .i64 0, .int .i64 0, .int .i64 0] 23)) := (Below.refl _ _).alloc (Nat.le_refl _) _
  have c0 := (HB.cell (p := ⟨g, off, none⟩) hgs).trans (hcell 0 (by decide))
  have c1 := (HB.cell (p := ⟨g, off + 1, none⟩) hgs).trans (hcell 1 (by decide))
  have c2 := (HB.cell (p := ⟨g, off + 2, none⟩) hgs).trans (hcell 2 (by decide))
  have c3 := (HB.cell (p := ⟨g, off + 3, none⟩) hgs).trans (hcell 3 (by decide))
  have c4 := (HB.cell (p := ⟨g, off + 4, none⟩) hgs).trans (hcell 4 (by decide))
  have c5 := (HB.cell (p := ⟨g, off + 5, none⟩) hgs).trans (hcell 5 (by decide))
  have hne : ¬ g = w.heap.size := by omega
  have hs : w.heap.size < (w.alloc (Obj.cells #[.int .i64 0, .int .i64 0, .int .i64 0, .int .i64 0, .int .i64 0, .int .i64 0, .int .i64 0, .int .i64 0] 23)).heap.size := by simp
  clear hcell
  go_enter Tryz.func40, Tryz.ntmps40
  go_wp2_with fail
  generalize w.alloc (Obj.cells #[.int .i64 0, .int .i64 0, .int .i64 0, .int .i64 0, .int .i64 0, .int .i64 0, .int .i64 0, .int .i64 0] 23) = W1 at hR HB c0 c1 c2 c3 c4 c5 hs ⊢
  have hgl : g < W1.drew.heap.size := Nat.lt_of_lt_of_le hgs HB.size
  have hC := And.intro c0 (And.intro c1 (And.intro c2 (And.intro c3 (And.intro c4 c5))))
  refine wp_region_held_drew (S := (fun w1 => w1.cell? ⟨g, off, none⟩ = some (.int .i64 (f 0)) ∧ w1.cell? ⟨g, off + 1, none⟩ = some (.int .i64 (f 1)) ∧ w1.cell? ⟨g, off + 2, none⟩ = some (.int .i64 (f 2)) ∧ w1.cell? ⟨g, off + 3, none⟩ = some (.int .i64 (f 3)) ∧ w1.cell? ⟨g, off + 4, none⟩ = some (.int .i64 (f 4)) ∧ w1.cell? ⟨g, off + 5, none⟩ = some (.int .i64 (f 5)))) (by kernel_rfl) hC (fun hHeld => ?_)
  refine wpAnyH_take (i := 0) (v := (.int .i64 id)) rfl (by kernel_rfl) (by kernel_rfl) (by kernel_rfl) (fun _ _ _ h => h) (Or.inl ⟨by rfl, fun w hSw => by (go_simp)⟩) hHeld ?_
  (try simp only [Act.put, List.getElem_toArray, List.getElem_cons_succ, List.getElem_cons_zero, List.setIfInBounds_toArray, List.set_cons_zero, List.set_cons_succ])
  refine wpAnyH_take (i := 1) (v := (.int .i64 k)) rfl (by kernel_rfl) (by kernel_rfl) (by kernel_rfl) (fun _ _ _ h => h) (Or.inl ⟨by rfl, fun w hSw => by (go_simp)⟩) hHeld ?_
  (try simp only [Act.put, List.getElem_toArray, List.getElem_cons_succ, List.getElem_cons_zero, List.setIfInBounds_toArray, List.set_cons_zero, List.set_cons_succ])
  refine wpAnyH_take (i := 2) (v := (.slice (some ⟨g, off, none⟩) 6 cap)) rfl (by kernel_rfl) (by kernel_rfl) (by kernel_rfl) (fun _ _ _ h => h) (Or.inl ⟨by rfl, fun w hSw => by (go_simp)⟩) hHeld ?_
  (try simp only [Act.put, List.getElem_toArray, List.getElem_cons_succ, List.getElem_cons_zero, List.setIfInBounds_toArray, List.set_cons_zero, List.set_cons_succ])
  refine wpAnyH_take (i := 3) (v := (.pointer (some ⟨g, off, none⟩))) rfl (by kernel_rfl) (by kernel_rfl) (by kernel_rfl) (fun _ _ _ h => h) (Or.inl ⟨by rfl, fun w hSw => by (go_simp)⟩) hHeld ?_
  (try simp only [Act.put, List.getElem_toArray, List.getElem_cons_succ, List.getElem_cons_zero, List.setIfInBounds_toArray, List.set_cons_zero, List.set_cons_succ])
  refine wpAnyH_take (i := 4) (v := (.int .i64 (f 0))) rfl (by kernel_rfl) (by kernel_rfl) (by kernel_rfl) (fun _ _ _ h => h) (Or.inl ⟨by rfl, fun w hSw => by (obtain ⟨q0, q1, q2, q3, q4, q5⟩ := hSw; go_simp)⟩) hHeld ?_
  (try simp only [Act.put, List.getElem_toArray, List.getElem_cons_succ, List.getElem_cons_zero, List.setIfInBounds_toArray, List.set_cons_zero, List.set_cons_succ])
  refine wpAnyH_take (i := 5) (v := (.slice (some ⟨g, off, none⟩) 6 cap)) rfl (by kernel_rfl) (by kernel_rfl) (by kernel_rfl) (fun _ _ _ h => h) (Or.inl ⟨by rfl, fun w hSw => by (go_simp)⟩) hHeld ?_
  (try simp only [Act.put, List.getElem_toArray, List.getElem_cons_succ, List.getElem_cons_zero, List.setIfInBounds_toArray, List.set_cons_zero, List.set_cons_succ])
  refine wpAnyH_take (i := 6) (v := (.pointer (some ⟨g, off + 1, none⟩))) rfl (by kernel_rfl) (by kernel_rfl) (by kernel_rfl) (fun _ _ _ h => h) (Or.inl ⟨by rfl, fun w hSw => by (go_simp)⟩) hHeld ?_
  (try simp only [Act.put, List.getElem_toArray, List.getElem_cons_succ, List.getElem_cons_zero, List.setIfInBounds_toArray, List.set_cons_zero, List.set_cons_succ])
  refine wpAnyH_take (i := 7) (v := (.int .i64 (f 1))) rfl (by kernel_rfl) (by kernel_rfl) (by kernel_rfl) (fun _ _ _ h => h) (Or.inl ⟨by rfl, fun w hSw => by (obtain ⟨q0, q1, q2, q3, q4, q5⟩ := hSw; go_simp)⟩) hHeld ?_
  (try simp only [Act.put, List.getElem_toArray, List.getElem_cons_succ, List.getElem_cons_zero, List.setIfInBounds_toArray, List.set_cons_zero, List.set_cons_succ])
  refine wpAnyH_take (i := 8) (v := (.slice (some ⟨g, off, none⟩) 6 cap)) rfl (by kernel_rfl) (by kernel_rfl) (by kernel_rfl) (fun _ _ _ h => h) (Or.inl ⟨by rfl, fun w hSw => by (go_simp)⟩) hHeld ?_
  (try simp only [Act.put, List.getElem_toArray, List.getElem_cons_succ, List.getElem_cons_zero, List.setIfInBounds_toArray, List.set_cons_zero, List.set_cons_succ])
  refine wpAnyH_take (i := 9) (v := (.pointer (some ⟨g, off + 2, none⟩))) rfl (by kernel_rfl) (by kernel_rfl) (by kernel_rfl) (fun _ _ _ h => h) (Or.inl ⟨by rfl, fun w hSw => by (go_simp)⟩) hHeld ?_
  (try simp only [Act.put, List.getElem_toArray, List.getElem_cons_succ, List.getElem_cons_zero, List.setIfInBounds_toArray, List.set_cons_zero, List.set_cons_succ])
  refine wpAnyH_take (i := 10) (v := (.int .i64 (f 2))) rfl (by kernel_rfl) (by kernel_rfl) (by kernel_rfl) (fun _ _ _ h => h) (Or.inl ⟨by rfl, fun w hSw => by (obtain ⟨q0, q1, q2, q3, q4, q5⟩ := hSw; go_simp)⟩) hHeld ?_
  (try simp only [Act.put, List.getElem_toArray, List.getElem_cons_succ, List.getElem_cons_zero, List.setIfInBounds_toArray, List.set_cons_zero, List.set_cons_succ])
  refine wpAnyH_take (i := 11) (v := (.slice (some ⟨g, off, none⟩) 6 cap)) rfl (by kernel_rfl) (by kernel_rfl) (by kernel_rfl) (fun _ _ _ h => h) (Or.inl ⟨by rfl, fun w hSw => by (go_simp)⟩) hHeld ?_
  (try simp only [Act.put, List.getElem_toArray, List.getElem_cons_succ, List.getElem_cons_zero, List.setIfInBounds_toArray, List.set_cons_zero, List.set_cons_succ])
  refine wpAnyH_take (i := 12) (v := (.pointer (some ⟨g, off + 3, none⟩))) rfl (by kernel_rfl) (by kernel_rfl) (by kernel_rfl) (fun _ _ _ h => h) (Or.inl ⟨by rfl, fun w hSw => by (go_simp)⟩) hHeld ?_
  (try simp only [Act.put, List.getElem_toArray, List.getElem_cons_succ, List.getElem_cons_zero, List.setIfInBounds_toArray, List.set_cons_zero, List.set_cons_succ])
  refine wpAnyH_take (i := 13) (v := (.int .i64 (f 3))) rfl (by kernel_rfl) (by kernel_rfl) (by kernel_rfl) (fun _ _ _ h => h) (Or.inl ⟨by rfl, fun w hSw => by (obtain ⟨q0, q1, q2, q3, q4, q5⟩ := hSw; go_simp)⟩) hHeld ?_
  (try simp only [Act.put, List.getElem_toArray, List.getElem_cons_succ, List.getElem_cons_zero, List.setIfInBounds_toArray, List.set_cons_zero, List.set_cons_succ])
  refine wpAnyH_take (i := 14) (v := (.slice (some ⟨g, off, none⟩) 6 cap)) rfl (by kernel_rfl) (by kernel_rfl) (by kernel_rfl) (fun _ _ _ h => h) (Or.inl ⟨by rfl, fun w hSw => by (go_simp)⟩) hHeld ?_
  (try simp only [Act.put, List.getElem_toArray, List.getElem_cons_succ, List.getElem_cons_zero, List.setIfInBounds_toArray, List.set_cons_zero, List.set_cons_succ])
  refine wpAnyH_take (i := 15) (v := (.pointer (some ⟨g, off + 4, none⟩))) rfl (by kernel_rfl) (by kernel_rfl) (by kernel_rfl) (fun _ _ _ h => h) (Or.inl ⟨by rfl, fun w hSw => by (go_simp)⟩) hHeld ?_
  (try simp only [Act.put, List.getElem_toArray, List.getElem_cons_succ, List.getElem_cons_zero, List.setIfInBounds_toArray, List.set_cons_zero, List.set_cons_succ])
  refine wpAnyH_take (i := 16) (v := (.int .i64 (f 4))) rfl (by kernel_rfl) (by kernel_rfl) (by kernel_rfl) (fun _ _ _ h => h) (Or.inl ⟨by rfl, fun w hSw => by (obtain ⟨q0, q1, q2, q3, q4, q5⟩ := hSw; go_simp)⟩) hHeld ?_
  (try simp only [Act.put, List.getElem_toArray, List.getElem_cons_succ, List.getElem_cons_zero, List.setIfInBounds_toArray, List.set_cons_zero, List.set_cons_succ])
  refine wpAnyH_take (i := 17) (v := (.slice (some ⟨g, off, none⟩) 6 cap)) rfl (by kernel_rfl) (by kernel_rfl) (by kernel_rfl) (fun _ _ _ h => h) (Or.inl ⟨by rfl, fun w hSw => by (go_simp)⟩) hHeld ?_
  (try simp only [Act.put, List.getElem_toArray, List.getElem_cons_succ, List.getElem_cons_zero, List.setIfInBounds_toArray, List.set_cons_zero, List.set_cons_succ])
  refine wpAnyH_take (i := 18) (v := (.pointer (some ⟨g, off + 5, none⟩))) rfl (by kernel_rfl) (by kernel_rfl) (by kernel_rfl) (fun _ _ _ h => h) (Or.inl ⟨by rfl, fun w hSw => by (go_simp)⟩) hHeld ?_
  (try simp only [Act.put, List.getElem_toArray, List.getElem_cons_succ, List.getElem_cons_zero, List.setIfInBounds_toArray, List.set_cons_zero, List.set_cons_succ])
  refine wpAnyH_take (i := 19) (v := (.int .i64 (f 5))) rfl (by kernel_rfl) (by kernel_rfl) (by kernel_rfl) (fun _ _ _ h => h) (Or.inl ⟨by rfl, fun w hSw => by (obtain ⟨q0, q1, q2, q3, q4, q5⟩ := hSw; go_simp)⟩) hHeld ?_
  (try simp only [Act.put, List.getElem_toArray, List.getElem_cons_succ, List.getElem_cons_zero, List.setIfInBounds_toArray, List.set_cons_zero, List.set_cons_succ])
  refine wpAnyH_take (i := 20) (v := (.agg #[.int .i64 id, .int .i64 k, .int .i64 (f 0), .int .i64 (f 1), .int .i64 (f 2), .int .i64 (f 3), .int .i64 (f 4), .int .i64 (f 5)])) rfl (by kernel_rfl) (by kernel_rfl) (by kernel_rfl) (fun _ _ _ h => h) (Or.inl ⟨by rfl, fun w hSw => by (go_simp)⟩) hHeld ?_
  (try simp only [Act.put, List.getElem_toArray, List.getElem_cons_succ, List.getElem_cons_zero, List.setIfInBounds_toArray, List.set_cons_zero, List.set_cons_succ])
  refine wpAnyH_ready (rs := [21]) (by kernel_rfl) (by simp) ?_
  refine AllReadyH.cons rfl (fun K hK => ?_) AllReadyH.nil
  rw [if_pos (by kernel_rfl)]
  refine wp_store_mid 23 _ _ rfl w.heap.size 0 (#[.int .i64 id, .int .i64 k, .int .i64 (f 0), .int .i64 (f 1), .int .i64 (f 2), .int .i64 (f 3), .int .i64 (f 4), .int .i64 (f 5)]) rfl rfl ((World.there_drew _ _ _ _).2 hR) (by kernel_rfl) (by simp [Value.oneCell']) ?_
  refine hK.out _ _ ?_ (fun hHeld2 => ?_)
  · exact (show _ from ⟨((keep_setCells W1.drew w.heap.size _ 0).cell (x := ⟨g, off, none⟩) hgl hne).trans c0, ((keep_setCells W1.drew w.heap.size _ 0).cell (x := ⟨g, off + 1, none⟩) hgl hne).trans c1, ((keep_setCells W1.drew w.heap.size _ 0).cell (x := ⟨g, off + 2, none⟩) hgl hne).trans c2, ((keep_setCells W1.drew w.heap.size _ 0).cell (x := ⟨g, off + 3, none⟩) hgl hne).trans c3, ((keep_setCells W1.drew w.heap.size _ 0).cell (x := ⟨g, off + 4, none⟩) hgl hne).trans c4, ((keep_setCells W1.drew w.heap.size _ 0).cell (x := ⟨g, off + 5, none⟩) hgl hne).trans c5⟩)
  clear hHeld hK K
  have hHeld := hHeld2
  clear hHeld2
  (try simp only [Act.put, List.getElem_toArray, List.getElem_cons_succ, List.getElem_cons_zero, List.setIfInBounds_toArray, List.set_cons_zero, List.set_cons_succ])
  refine wpAnyH_done (by kernel_rfl) ?_ _
  obtain ⟨W2, hW2⟩ : ∃ W2, W2 = W1.drew.setCells w.heap.size 0 [.int .i64 id, .int .i64 k, .int .i64 (f 0), .int .i64 (f 1), .int .i64 (f 2), .int .i64 (f 3), .int .i64 (f 4), .int .i64 (f 5)] := ⟨_, rfl⟩
  have hB2 : Below w.heap.size w W2 := by rw [hW2]; exact HB.drew.trans ((keep_setCells W1.drew w.heap.size _ 0).below (Nat.le_of_lt hs) (fun j hj e => by omega))
  have hc : W2.rangeAt w.heap.size 0 [.int .i64 id, .int .i64 k, .int .i64 (f 0), .int .i64 (f 1), .int .i64 (f 2), .int .i64 (f 3), .int .i64 (f 4), .int .i64 (f 5)] := by rw [hW2]; exact World.rangeAt_setCells_same _ _ _ _ ((World.there_drew _ _ _ _).2 hR)
  rw [← hW2]
  have c0 := hc 0 _ rfl; have c1 := hc 1 _ rfl; have c2 := hc 2 _ rfl; have c3 := hc 3 _ rfl; have c4 := hc 4 _ rfl; have c5 := hc 5 _ rfl; have c6 := hc 6 _ rfl; have c7 := hc 7 _ rfl
  clear hW2 hHeld hR hc
  go_wp2_with fail
  exact bodyPost_ret (v := opV id k (f 0) (f 1) (f 2) (f 3) (f 4) (f 5)) (by simp [results, Tryz.results40, go_sem, c0, c1, c2, c3, c4, c5, c6, c7]) rfl ⟨rfl, hB2⟩
end Go.Proofs.YtchbkceconlbkaaGreatDoor
