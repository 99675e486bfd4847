/- The block of an operation that is built up and handed out; op.Parse's first early end. (Written by gen_parse.py.) -/
import Derived.Test.YtchbkceconlbkaaGreatDoorOpNum
import Derived.Test.YtchbkceconlbkaaGreatDoorParseLaw
import Derived.Deep.RegionHeld3
namespace Go.Proofs.YtchbkceconlbkaaGreatDoor
open Go Go.RowKit
set_option linter.unusedSimpArgs false
set_option linter.unusedVariables false

theorem keep_setCells (w : World) (b : Nat) : ∀ (vs : List Value) (o : Nat), Keep (fun x => x = b) w (w.setCells b o vs)
  | [], o => Keep.refl _ _
  | v :: vs, o => by
    have h1 := keep_setCell w ⟨b, o, none⟩ v
    exact h1.trans (keep_setCells (w.setCell ⟨b, o, none⟩ v) b vs (o + 1))
abbrev zero8 : List Value := [.int .i64 0, .int .i64 0, .int .i64 0, .int .i64 0, .int .i64 0, .int .i64 0, .int .i64 0, .int .i64 0]
theorem there_new (w : World) (cs : Array Value) (T : TypeId) (n : Nat) (hn : n ≤ cs.size) : (w.alloc (Obj.cells cs T)).there w.heap.size 0 n := fun j hj => by
  refine ⟨?_, ?_⟩
  · simp only [World.cell?, World.alloc, Array.getElem?_push, if_true, Nat.zero_add]
    simp; omega
  · simp only [World.frozen?, World.alloc, Array.getElem?_push, if_true]
    simp
theorem World.there.below {w w' : World} {g o n : Nat} (h : w.there g o n) (hg : g < w.heap.size) (k : Below w.heap.size w w') : w'.there g o n := fun j hj =>
  ⟨by rw [k.cell (p := ⟨g, o + j, none⟩) hg]; exact (h j hj).1, (k.frozen (p := ⟨g, o + j, none⟩) hg).trans (h j hj).2⟩

set_option maxHeartbeats 4000000 in
set_option maxRecDepth 100000 in
theorem parse_few {B : Nat} {p : Nat → Addr} {w : World} (hE : Errs (List.range 21) B p w) (a : Option Addr) (cap n : Nat) (hn : n < 2) :
    Calls Tryz.prog 17 #[.slice a n cap] w fun e w' => e = .returned (.tuple #[opV 0 0 0 0 0 0 0 0, ev p 17]) ∧ Below w.heap.size w w' := by
  have hg := hE.cell 17 (by decide)
  change w.cell? ⟨4, 0, none⟩ = some (ev p 17) at hg
  have hgl0 : 4 < w.heap.size := Nat.lt_of_lt_of_le (hE.lt 17 (by decide)).1 hE.size
  have hd : decide ((n : Int) < 2) = true := decide_eq_true (by omega)
  clear hE
  have hR := there_new w #[.int .i64 0, .int .i64 0, .int .i64 0, .int .i64 0, .int .i64 0, .int .i64 0, .int .i64 0, .int .i64 0] 23 8 (by decide)
  have HB : Below w.heap.size w (w.alloc (Obj.cells #[.int .i64 0, .int .i64 0, .int .i64 0, .int .i64 0, .int .i64 0, .int .i64 0, .int .i64 0, .int .i64 0] 23)) := (Below.refl _ _).alloc (Nat.le_refl _) _
  have hg := (HB.cell (p := ⟨4, 0, none⟩) hgl0).trans hg
  have hne : ¬ 4 = w.heap.size := by omega
  have hs : w.heap.size < (w.alloc (Obj.cells #[.int .i64 0, .int .i64 0, .int .i64 0, .int .i64 0, .int .i64 0, .int .i64 0, .int .i64 0, .int .i64 0] 23)).heap.size := by simp
  go_enter Tryz.func17, Tryz.ntmps17
  go_wp2_with fail
  generalize w.alloc (Obj.cells #[.int .i64 0, .int .i64 0, .int .i64 0, .int .i64 0, .int .i64 0, .int .i64 0, .int .i64 0, .int .i64 0] 23) = W1 at hR HB hg hs ⊢
  have hgl : 4 < W1.drew.heap.size := Nat.lt_of_lt_of_le hgl0 HB.size
  refine wp_region_held_drew (S := (fun w1 => w1.cell? ⟨4, 0, none⟩ = some (ev p 17))) (by kernel_rfl) hg (fun hHeld => ?_)
  refine wpAnyH_take (i := 0) (v := (.agg #[.int .i64 0, .int .i64 0, .int .i64 0, .int .i64 0, .int .i64 0, .int .i64 0, .int .i64 0, .int .i64 0])) rfl (by kernel_rfl) (by kernel_rfl) (by kernel_rfl) (fun _ _ _ h => h) (Or.inl ⟨by rfl, fun w hSw => by (go_simp)⟩) hHeld ?_
  (try simp only [Act.put, List.getElem_toArray, List.getElem_cons_succ, List.getElem_cons_zero, List.setIfInBounds_toArray, List.set_cons_zero, List.set_cons_succ])
  refine wpAnyH_take (i := 1) (v := (ev p 17)) rfl (by kernel_rfl) (by kernel_rfl) (by kernel_rfl) (fun _ _ _ h => h) (Or.inl ⟨by rfl, fun w hSw => by (have hSw2 := hSw; go_simp)⟩) hHeld ?_
  (try simp only [Act.put, List.getElem_toArray, List.getElem_cons_succ, List.getElem_cons_zero, List.setIfInBounds_toArray, List.set_cons_zero, List.set_cons_succ])
  refine wpAnyH_ready (rs := [2]) (by kernel_rfl) (by simp) ?_
  refine AllReadyH.cons rfl (fun K hK => ?_) AllReadyH.nil
  rw [if_pos (by kernel_rfl)]
  refine wp_store_mid 23 _ _ rfl w.heap.size 0 (#[.int .i64 0, .int .i64 0, .int .i64 0, .int .i64 0, .int .i64 0, .int .i64 0, .int .i64 0, .int .i64 0]) rfl rfl ((World.there_drew _ _ _ _).2 hR) (by kernel_rfl) (by simp [Value.oneCell']) ?_
  refine hK.out _ _ ?_ (fun hHeld2 => ?_)
  · exact (show _ from ((keep_setCells W1.drew w.heap.size _ 0).cell (x := ⟨4, 0, none⟩) hgl hne).trans hg)
  clear hHeld hK K
  have hHeld := hHeld2
  clear hHeld2
  (try simp only [Act.put, List.getElem_toArray, List.getElem_cons_succ, List.getElem_cons_zero, List.setIfInBounds_toArray, List.set_cons_zero, List.set_cons_succ])
  refine wpAnyH_take (i := 3) (v := (ev p 17)) rfl (by kernel_rfl) (by kernel_rfl) (by kernel_rfl) (fun _ _ _ h => h) (Or.inl ⟨by rfl, fun w hSw => by (go_simp)⟩) hHeld ?_
  (try simp only [Act.put, List.getElem_toArray, List.getElem_cons_succ, List.getElem_cons_zero, List.setIfInBounds_toArray, List.set_cons_zero, List.set_cons_succ])
  refine wpAnyH_done (by kernel_rfl) ?_ _
  obtain ⟨W2, hW2⟩ : ∃ W2, W2 = W1.drew.setCells w.heap.size 0 zero8 := ⟨_, rfl⟩
  have hB2 : Below w.heap.size w W2 := by rw [hW2]; exact HB.drew.trans ((keep_setCells W1.drew w.heap.size zero8 0).below (Nat.le_of_lt hs) (fun j hj e => by omega))
  have hc : W2.rangeAt w.heap.size 0 zero8 := by rw [hW2]; exact World.rangeAt_setCells_same _ _ _ _ ((World.there_drew _ _ _ _).2 hR)
  rw [← hW2]
  have c0 := hc 0 _ rfl; have c1 := hc 1 _ rfl; have c2 := hc 2 _ rfl; have c3 := hc 3 _ rfl; have c4 := hc 4 _ rfl; have c5 := hc 5 _ rfl; have c6 := hc 6 _ rfl; have c7 := hc 7 _ rfl
  clear hW2 hHeld hg hR hc
  go_wp2_with fail
  exact bodyPost_ret (v := .tuple #[opV 0 0 0 0 0 0 0 0, ev p 17]) (by simp [results, Tryz.results17, go_sem, c0, c1, c2, c3, c4, c5, c6, c7]) rfl ⟨rfl, hB2⟩
end Go.Proofs.YtchbkceconlbkaaGreatDoor
