/- pledgeref1.Reader: Ok, Left, Fail. -/
import Derived.Test.YtchbkceconlbkaaGreatDoorWireNum
import Derived.Test.YtchbkceconlbkaaGreatDoorOpPar0
namespace Go.Proofs.YtchbkceconlbkaaGreatDoor
open Go Go.RowKit
set_option linter.unusedSimpArgs false
set_option linter.unusedVariables false

/-- The reference's reader at block rb: its bytes (the slice v), its place, its first fault (code, place). -/
structure RefRdr (w : World) (rb : Nat) (v : Value) (l : List UInt8) (st : Nat × Option (Nat × Nat)) : Prop where
  lt : rb < w.heap.size
  c0 : w.cell? ⟨rb, 0, none⟩ = some v
  rd : RdB w v (bytesI l)
  ne : ∀ g, v.ownBlock = some g → g ≠ rb
  c1 : w.cell? ⟨rb, 1, none⟩ = some (.int .i64 st.1)
  bad : (st.2 = none ∧ w.cell? ⟨rb, 2, none⟩ = some (.int .i64 0) ∧ w.cell? ⟨rb, 3, none⟩ = some (.bool false) ∧ w.cell? ⟨rb, 4, none⟩ = some (.int .i64 0)) ∨
    ∃ c q : Nat, st.2 = some (c, q) ∧ 101 ≤ c ∧ c ≤ 103 ∧ w.cell? ⟨rb, 2, none⟩ = some (.int .i64 c) ∧ w.cell? ⟨rb, 3, none⟩ = some (.bool true) ∧ w.cell? ⟨rb, 4, none⟩ = some (.int .i64 q)
  free : ∀ j, w.frozen? ⟨rb, j, none⟩ = false
theorem RefRdr.below {w w' : World} {rb : Nat} {v : Value} {l : List UInt8} {st : Nat × Option (Nat × Nat)} (h : RefRdr w rb v l st) (k : Below w.heap.size w w') : RefRdr w' rb v l st := by
  refine ⟨Nat.lt_of_lt_of_le h.lt k.size, (k.cell (p := ⟨rb, 0, none⟩) h.lt).trans h.c0, h.rd.below k, h.ne, (k.cell (p := ⟨rb, 1, none⟩) h.lt).trans h.c1, ?_, fun j => (k.frozen (p := ⟨rb, j, none⟩) h.lt).trans (h.free j)⟩
  rcases h.bad with ⟨h1, h2, h3, h4⟩ | ⟨c, q, h1, ha, hb, h2, h3, h4⟩
  · exact .inl ⟨h1, (k.cell (p := ⟨rb, 2, none⟩) h.lt).trans h2, (k.cell (p := ⟨rb, 3, none⟩) h.lt).trans h3, (k.cell (p := ⟨rb, 4, none⟩) h.lt).trans h4⟩
  · exact .inr ⟨c, q, h1, ha, hb, (k.cell (p := ⟨rb, 2, none⟩) h.lt).trans h2, (k.cell (p := ⟨rb, 3, none⟩) h.lt).trans h3, (k.cell (p := ⟨rb, 4, none⟩) h.lt).trans h4⟩
theorem refOk_calls {w : World} {rb : Nat} {v : Value} {l : List UInt8} {st : Nat × Option (Nat × Nat)} (hR : RefRdr w rb v l st) :
    Calls Tryz.prog 42 #[.pointer (some ⟨rb, 0, none⟩)] w fun e w' => e = .returned (.bool st.2.isNone) ∧ w = w' := by
  have hlt := hR.lt
  rcases hR.bad with ⟨h1, h2, _⟩ | ⟨c, q, h1, ha, hb, h2, _⟩
  · rw [h1]
    clear hR h1
    go_enter Tryz.func42, Tryz.ntmps42
    go_wp2_with fail
    go_ret
    exact ⟨rfl, rfl⟩
  · rw [h1]
    have hq : ((c : Int) == 0) = false := by simp; omega
    clear hR h1
    go_enter Tryz.func42, Tryz.ntmps42
    go_wp2_with fail
    go_ret
    exact ⟨rfl, rfl⟩
theorem refLeft_calls {w : World} {rb : Nat} {a : Option Addr} {cap : Nat} {l : List UInt8} {st : Nat × Option (Nat × Nat)} (hR : RefRdr w rb (.slice a l.length cap) l st) (hok : rdrOk l st) (hl : l.length ≤ 1000) :
    Calls Tryz.prog 43 #[.pointer (some ⟨rb, 0, none⟩)] w fun e w' => e = .returned (.int .i64 ((l.length : Int) - st.1)) ∧ Below w.heap.size w w' := by
  have hc0 := hR.c0
  have hc1 := hR.c1
  have hlt := hR.lt
  have hok' : st.1 ≤ l.length := hok
  have hw : IntKind.i64.wrap ((l.length : Int) - (st.1 : Int)) = (l.length : Int) - st.1 := IntWalk.i64_in _ (by omega)
  generalize st.1 = at0 at *
  clear hR hok
  go_enter Tryz.func43, Tryz.ntmps43
  go_wp2_with fail
  go_quiet (fail)
  go_wp2_with fail
  go_ret
  exact ⟨rfl, below_many (Below.refl _ _) _⟩
theorem frozen_setCells (b j : Nat) : ∀ (vs : List Value) (o : Nat) (w : World), (w.setCells b o vs).frozen? ⟨b, j, none⟩ = w.frozen? ⟨b, j, none⟩
  | [], _, _ => rfl
  | v :: vs, o, w => (frozen_setCells b j vs (o + 1) (w.setCell ⟨b, o, none⟩ v)).trans frozen_setCell
set_option maxHeartbeats 4000000 in
set_option maxRecDepth 100000 in
theorem refFail_calls {w : World} {rb : Nat} {v : Value} {l : List UInt8} {st : Nat × Option (Nat × Nat)} {at0 : Nat} (hR : RefRdr w rb v l st) {c : Nat} (hc1 : 101 ≤ c) (hc2 : c ≤ 103) :
    Calls Tryz.prog 44 #[.pointer (some ⟨rb, 0, none⟩), .int .i64 c, .int .i64 at0] w fun e w' => e = .returned (.tuple #[]) ∧ RefRdr w' rb v l (at0, some (c, at0)) ∧ Keep (fun x => x = rb) w w' := by
  have HR := Lib.hid hR
  have HP := Lib.hid (placed_calls (c : Int) (at0 : Int) (by omega) w)
  clear hR
  go_enter Tryz.func44, Tryz.ntmps44
  go_wp2_with fail
  refine HP.out.mono ?_
  rintro e w1 ⟨rfl, hb⟩
  have hR1 := HR.out.below hb
  have hlt := hR1.lt
  have hth : w1.there rb 2 3 := fun j hj => by
    refine ⟨?_, hR1.free _⟩
    have : j = 0 ∨ j = 1 ∨ j = 2 := by omega
    rcases hR1.bad with ⟨_, h2, h3, h4⟩ | ⟨_, _, _, _, _, h2, h3, h4⟩ <;> rcases this with rfl | rfl | rfl <;> simp [h2, h3, h4]
  obtain ⟨W2, hW2⟩ : ∃ W2, W2 = w1.setCells rb 2 [.int .i64 c, .bool true, .int .i64 at0] := ⟨_, rfl⟩
  have hk2 : Keep (fun x => x = rb) w1 W2 := by rw [hW2]; exact keep_setCells _ _ _ _
  have hrg : W2.rangeAt rb 2 [.int .i64 c, .bool true, .int .i64 at0] := by rw [hW2]; exact World.rangeAt_setCells_same _ _ _ _ hth
  have e0 : W2.cell? ⟨rb, 0, none⟩ = some v := by
    have h := World.rangeAt_setCells_apart (w := w1) (b' := rb) (o' := 0) (cs := [v]) (fun j u hj => by
      cases j with
      | zero => simp only [List.getElem?_cons_zero, Option.some.injEq] at hj; rw [← hj]; exact hR1.c0
      | succ j => simp at hj) rb 2 [.int .i64 c, .bool true, .int .i64 at0] (.inr (.inl (by simp)))
    rw [hW2]; exact h 0 v rfl
  have e1 : W2.cell? ⟨rb, 1, none⟩ = some (.int .i64 st.1) := by
    have h := World.rangeAt_setCells_apart (w := w1) (b' := rb) (o' := 1) (cs := [.int .i64 st.1]) (fun j u hj => by
      cases j with
      | zero => simp only [List.getElem?_cons_zero, Option.some.injEq] at hj; rw [← hj]; exact hR1.c1
      | succ j => simp at hj) rb 2 [.int .i64 c, .bool true, .int .i64 at0] (.inr (.inl (by simp)))
    rw [hW2]; exact h 0 _ rfl
  have hfr : ∀ j, W2.frozen? ⟨rb, j, none⟩ = false := fun j => by rw [hW2, frozen_setCells]; exact hR1.free j
  have g1 := hfr 1
  have hlt2 : rb < W2.heap.size := Nat.lt_of_lt_of_le hlt hk2.size
  have hrd2 : RdB W2 v (bytesI l) := by
    rcases hR1.rd with h | ⟨g, off, cap, h, q1, q2, q3, q4⟩
    · exact .inl h
    · exact .inr ⟨g, off, cap, h, q1, q2, Nat.lt_of_lt_of_le q3 hk2.size, fun i hi => (hk2.cell (x := ⟨g, off + i, none⟩) q3 (hR1.ne g (by rw [h]; rfl))).trans (q4 i hi)⟩
  have hk3 := keep_setCell W2 ⟨rb, 1, none⟩ (.int .i64 at0)
  have HFin : Hid (RefRdr (W2.setCell ⟨rb, 1, none⟩ (.int .i64 at0)) rb v l (at0, some (c, at0))) := by
    refine ⟨Nat.lt_of_lt_of_le hlt2 hk3.size, (cell_setCell_other (by decide)).trans e0, ?_, hR1.ne, World.cell?_setCell_same' _ _ _ (by rw [e1]; rfl), .inr ⟨c, at0, rfl, hc1, hc2, (cell_setCell_other (by decide)).trans (hrg 0 _ rfl), (cell_setCell_other (by decide)).trans (hrg 1 _ rfl), (cell_setCell_other (by decide)).trans (hrg 2 _ rfl)⟩, fun j => (frozen_setCell).trans (hfr j)⟩
    rcases hrd2 with h | ⟨g, off, cap, h, q1, q2, q3, q4⟩
    · exact .inl h
    · exact .inr ⟨g, off, cap, h, q1, q2, Nat.lt_of_lt_of_le q3 hk3.size, fun i hi => (hk3.cell (x := ⟨g, off + i, none⟩) q3 (hR1.ne g (by rw [h]; rfl))).trans (q4 i hi)⟩
  have HK := Lib.hid (((keep_of_below hb (fun x => x = rb)).trans hk2).trans hk3)
  have HTh := Lib.hid hth
  have HW2 := Lib.hid hW2
  clear hR1 hth hb HP HR hk2 hk3 hrg hrd2 e0 hfr hW2
  go_wp2_with (refine wpList_store_mid rfl 41 _ _ rfl rb 2 #[.int .i64 c, .bool true, .int .i64 at0] rfl rfl HTh.out (by kernel_rfl) (by simp [Value.oneCell']) ?_; rw [← HW2.out])
  go_end0
  exact ⟨rfl, HFin.out, HK.out⟩
theorem two_stores {W : World} {s : Nat} {L8 L3 : List Value} (h1 : W.there s 0 L8.length) (h2 : W.there (s + 1) 0 L3.length) (hs : s + 1 < W.heap.size) : ∀ W', W' = (W.setCells s 0 L8).setCells (s + 1) 0 L3 → W'.rangeAt s 0 L8 ∧ W'.rangeAt (s + 1) 0 L3 ∧ Below s W W' := by
  rintro W' rfl
  have k1 := keep_setCells W s L8 0
  have k2 := keep_setCells (W.setCells s 0 L8) (s + 1) L3 0
  have r1 := World.rangeAt_setCells_same W s 0 L8 h1
  refine ⟨fun j u hj => ?_, World.rangeAt_setCells_same _ _ _ _ (World.there_setCells h2 _ _ _), (k1.below (by omega) (fun j hj e => by omega)).trans (k2.below (by have := k1.size; omega) (fun j hj e => by omega))⟩
  exact (k2.cell (x := ⟨s, 0 + j, none⟩) (by have := k1.size; show s < _; omega) (show ¬ s = s + 1 by omega)).trans (r1 j u hj)
theorem there_keepK {S : Nat → Prop} {w w' : World} {g o n : Nat} (h : w.there g o n) (hg : g < w.heap.size) (k : Keep S w w') (hne : ¬ S g) : w'.there g o n := fun j hj =>
  ⟨by rw [k.cell (x := ⟨g, o + j, none⟩) hg hne]; exact (h j hj).1, (k.frozen (x := ⟨g, o + j, none⟩) hg hne).trans (h j hj).2⟩
theorem there_keep1 {w w' : World} {g o n b : Nat} (h : w.there g o n) (hg : g < w.heap.size) (k : Keep (fun x => x = b) w w') (hne : ¬ g = b) : w'.there g o n := there_keepK h hg k hne
end Go.Proofs.YtchbkceconlbkaaGreatDoor
