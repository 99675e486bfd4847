/- op.Read: what it says of bytes; its early end. (Written by gen_read.py.) -/
import Derived.Test.YtchbkceconlbkaaGreatDoorOpMade
import Derived.Test.YtchbkceconlbkaaGreatDoorOpBytes
import Derived.Test.YtchbkceconlbkaaGreatDoorWireNum
import Derived.Test.YtchbkceconlbkaaGreatDoorParseLaw
namespace Go.Proofs.YtchbkceconlbkaaGreatDoor
open Go Go.RowKit
set_option linter.unusedSimpArgs false
set_option linter.unusedVariables false

/-- Number j of eight that are read of bytes. -/
def readN (l : List UInt8) (j : Nat) : Int := (readQ l 8).1.getD j 0
def readV (l : List UInt8) : Nat := validC (readN l 0) (readN l 1) (readN l 2) (readN l 3) (readN l 4) (readN l 5) (readN l 6) (readN l 7)
/-- The error: its number (0: none), whether it has a place, the place. -/
def readF (l : List UInt8) : Nat × Bool × Nat :=
  if 256 < l.length then (105, false, 0) else
  match (readQ l 8).2.2 with
  | some (c, q) => (c, true, q)
  | none => if (readQ l 8).2.1 < l.length then (102, true, (readQ l 8).2.1) else (codeV (readV l), false, 0)
def readO (l : List UInt8) : Value :=
  if (readF l).1 = 0 then opV (readN l 0) (readN l 1) (readN l 2) (readN l 3) (readN l 4) (readN l 5) (readN l 6) (readN l 7) else opV 0 0 0 0 0 0 0 0
/-- The error as a value. -/
def ErrIs (p : Nat → Addr) (w : World) (er : Value) (f : Nat × Bool × Nat) : Prop :=
  (f = (0, false, 0) ∧ er = .nilIface) ∨ (∃ k, k < 21 ∧ f = (101 + k, false, 0) ∧ er = ev p k) ∨ ∃ k q eb, k < 21 ∧ f = (101 + k, true, q) ∧ er = atV eb ∧ AtCells p w eb q k
theorem ErrIs.below {p : Nat → Addr} {w w' : World} {er : Value} {f : Nat × Bool × Nat} (h : ErrIs p w er f) (k : Below w.heap.size w w') : ErrIs p w' er f := by
  rcases h with h | h | ⟨c, q, eb, h1, h2, h3, h4⟩
  · exact .inl h
  · exact .inr (.inl h)
  · exact .inr (.inr ⟨c, q, eb, h1, h2, h3, h4.below k⟩)
theorem readF_err {l : List UInt8} {c q : Nat} (hl : l.length ≤ 256) (h : (readQ l 8).2.2 = some (c, q)) : readF l = (c, true, q) := by
  unfold readF; rw [if_neg (by omega), h]
theorem readF_left {l : List UInt8} (hl : l.length ≤ 256) (h : (readQ l 8).2.2 = none) (h2 : (readQ l 8).2.1 < l.length) : readF l = (102, true, (readQ l 8).2.1) := by
  unfold readF; rw [if_neg (by omega), h]; exact if_pos h2
theorem readF_all {l : List UInt8} (hl : l.length ≤ 256) (h : (readQ l 8).2.2 = none) (h2 : ¬ (readQ l 8).2.1 < l.length) : readF l = (codeV (readV l), false, 0) := by
  unfold readF; rw [if_neg (by omega), h]; exact if_neg h2
theorem readQ_ok (l : List UInt8) : ∀ q, rdrOk l (readQ l q).2
  | 0 => Nat.zero_le _
  | q + 1 => numStep_ok (readQ_ok l q)
theorem readQ_snd (l : List UInt8) (q : Nat) : (readQ l (q + 1)).2 = (numStep l 0 4611686018427387904 (readQ l q).2).2 := rfl
theorem readQ_fst (l : List UInt8) (q : Nat) : (readQ l (q + 1)).1 = (readQ l q).1 ++ [(numStep l 0 4611686018427387904 (readQ l q).2).1] := rfl

set_option maxHeartbeats 4000000 in
set_option maxRecDepth 100000 in
theorem read_long {B : Nat} {p : Nat → Addr} {w : World} (hE : Errs (List.range 21) B p w) {v : Value} {l : List UInt8} (hR : RdB w v (bytesI l)) (hl : 256 < l.length) (hl2 : l.length ≤ 140737488355328) :
    Calls Tryz.prog 15 #[v] w fun e w' => e = .returned (.tuple #[opV 0 0 0 0 0 0 0 0, ev p 4]) ∧ Below w.heap.size w w' := by
  have hlen : (bytesI l).length = l.length := by simp [bytesI]
  obtain ⟨va, vc, rfl, hvc, hvm⟩ := hR.len
  rw [hlen]
  have hg := hE.cell 4 (by decide)
  change w.cell? ⟨2, 0, none⟩ = some (ev p 4) at hg
  have hgl0 : 2 < w.heap.size := Nat.lt_of_lt_of_le (hE.lt 4 (by decide)).1 hE.size
  have hd : decide ((l.length : Int) > 256) = true := decide_eq_true (by omega)
  clear hE hR
  have hR := there_new w #[.int .i64 0, .int .i64 0, .int .i64 0, .int .i64 0, .int .i64 0, .int .i64 0, .int .i64 0, .int .i64 0] 23 8 (by decide)
  have HB : Below w.heap.size w (w.alloc (Obj.cells #[.int .i64 0, .int .i64 0, .int .i64 0, .int .i64 0, .int .i64 0, .int .i64 0, .int .i64 0, .int .i64 0] 23)) := (Below.refl _ _).alloc (Nat.le_refl _) _
  have hg := (HB.cell (p := ⟨2, 0, none⟩) hgl0).trans hg
  have hne : ¬ 2 = w.heap.size := by omega
  have hs : w.heap.size < (w.alloc (Obj.cells #[.int .i64 0, .int .i64 0, .int .i64 0, .int .i64 0, .int .i64 0, .int .i64 0, .int .i64 0, .int .i64 0] 23)).heap.size := by simp
  go_enter Tryz.func15, Tryz.ntmps15
  go_wp2_with fail
  generalize w.alloc (Obj.cells #[.int .i64 0, .int .i64 0, .int .i64 0, .int .i64 0, .int .i64 0, .int .i64 0, .int .i64 0, .int .i64 0] 23) = W1 at hR HB hg hs ⊢
  have hgl : 2 < W1.drew.heap.size := Nat.lt_of_lt_of_le hgl0 HB.size
  refine wp_region_held_drew (S := (fun w1 => w1.cell? ⟨2, 0, none⟩ = some (ev p 4))) (by kernel_rfl) hg (fun hHeld => ?_)
  refine wpAnyH_take (i := 0) (v := (.agg #[.int .i64 0, .int .i64 0, .int .i64 0, .int .i64 0, .int .i64 0, .int .i64 0, .int .i64 0, .int .i64 0])) rfl (by kernel_rfl) (by kernel_rfl) (by kernel_rfl) (fun _ _ _ h => h) (Or.inl ⟨by rfl, fun w hSw => by (go_simp)⟩) hHeld ?_
  (try simp only [Act.put, List.getElem_toArray, List.getElem_cons_succ, List.getElem_cons_zero, List.setIfInBounds_toArray, List.set_cons_zero, List.set_cons_succ])
  refine wpAnyH_take (i := 1) (v := (ev p 4)) rfl (by kernel_rfl) (by kernel_rfl) (by kernel_rfl) (fun _ _ _ h => h) (Or.inl ⟨by rfl, fun w hSw => by (have hSw2 := hSw; go_simp)⟩) hHeld ?_
  (try simp only [Act.put, List.getElem_toArray, List.getElem_cons_succ, List.getElem_cons_zero, List.setIfInBounds_toArray, List.set_cons_zero, List.set_cons_succ])
  refine wpAnyH_ready (rs := [2]) (by kernel_rfl) (by simp) ?_
  refine AllReadyH.cons rfl (fun K hK => ?_) AllReadyH.nil
  rw [if_pos (by kernel_rfl)]
  refine wp_store_mid 23 _ _ rfl w.heap.size 0 (#[.int .i64 0, .int .i64 0, .int .i64 0, .int .i64 0, .int .i64 0, .int .i64 0, .int .i64 0, .int .i64 0]) rfl rfl ((World.there_drew _ _ _ _).2 hR) (by kernel_rfl) (by simp [Value.oneCell']) ?_
  refine hK.out _ _ ?_ (fun hHeld2 => ?_)
  · exact (show _ from ((keep_setCells W1.drew w.heap.size _ 0).cell (x := ⟨2, 0, none⟩) hgl hne).trans hg)
  clear hHeld hK K
  have hHeld := hHeld2
  clear hHeld2
  (try simp only [Act.put, List.getElem_toArray, List.getElem_cons_succ, List.getElem_cons_zero, List.setIfInBounds_toArray, List.set_cons_zero, List.set_cons_succ])
  refine wpAnyH_take (i := 3) (v := (ev p 4)) rfl (by kernel_rfl) (by kernel_rfl) (by kernel_rfl) (fun _ _ _ h => h) (Or.inl ⟨by rfl, fun w hSw => by (go_simp)⟩) hHeld ?_
  (try simp only [Act.put, List.getElem_toArray, List.getElem_cons_succ, List.getElem_cons_zero, List.setIfInBounds_toArray, List.set_cons_zero, List.set_cons_succ])
  refine wpAnyH_done (by kernel_rfl) ?_ _
  obtain ⟨W2, hW2⟩ : ∃ W2, W2 = W1.drew.setCells w.heap.size 0 zero8 := ⟨_, rfl⟩
  have hB2 : Below w.heap.size w W2 := by rw [hW2]; exact HB.drew.trans ((keep_setCells W1.drew w.heap.size zero8 0).below (Nat.le_of_lt hs) (fun j hj e => by omega))
  have hc : W2.rangeAt w.heap.size 0 zero8 := by rw [hW2]; exact World.rangeAt_setCells_same _ _ _ _ ((World.there_drew _ _ _ _).2 hR)
  rw [← hW2]
  have c0 := hc 0 _ rfl; have c1 := hc 1 _ rfl; have c2 := hc 2 _ rfl; have c3 := hc 3 _ rfl; have c4 := hc 4 _ rfl; have c5 := hc 5 _ rfl; have c6 := hc 6 _ rfl; have c7 := hc 7 _ rfl
  clear hW2 hHeld hg hR hc
  go_wp2_with fail
  exact bodyPost_ret (v := .tuple #[opV 0 0 0 0 0 0 0 0, ev p 4]) (by simp [results, Tryz.results15, go_sem, c0, c1, c2, c3, c4, c5, c6, c7]) rfl ⟨rfl, hB2⟩
end Go.Proofs.YtchbkceconlbkaaGreatDoor
