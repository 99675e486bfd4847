/- Errors with a place (api.At): pledgeref.Placed, pledgesee.Fault and Same of one. -/
import Derived.Test.YtchbkceconlbkaaGreatDoorSee
import Derived.Deep.RegionWith
namespace Go.Proofs.YtchbkceconlbkaaGreatDoor
open Go Go.RowKit
set_option linter.unusedSimpArgs false
set_option linter.unusedVariables false

/-- An error with a place at block b. -/
abbrev atV (b : Nat) : Value := .iface 68 (.pointer (some ⟨b, 0, none⟩))
/-- What lies there: the place i, sentinel k. -/
structure AtCells (p : Nat → Addr) (w : World) (b : Nat) (i : Int) (k : Nat) : Prop where
  pos : w.cell? ⟨b, 0, none⟩ = some (.int .i64 i)
  err : w.cell? ⟨b, 1, none⟩ = some (ev p k)
theorem AtCells.lt {p : Nat → Addr} {w : World} {b : Nat} {i : Int} {k : Nat} (h : AtCells p w b i k) : b < w.heap.size := World.block_lt_of_cell? w _ h.pos
theorem AtCells.below {p : Nat → Addr} {w w' : World} {b : Nat} {i : Int} {k : Nat} (h : AtCells p w b i k) (hb : Below w.heap.size w w') : AtCells p w' b i k :=
  ⟨(hb.cell (p := ⟨b, 0, none⟩) h.lt).trans h.pos, (hb.cell (p := ⟨b, 1, none⟩) h.lt).trans h.err⟩

theorem placed_calls (c i : Int) (hc : ¬ c = 0) (w : World) : Calls Tryz.prog 63 #[.int .i64 c, .int .i64 i] w fun e w' => e = .returned (faultV c true i) ∧ Below w.heap.size w w' := by
  go_enter Tryz.func63, Tryz.ntmps63
  go_wp2
  exact bodyPost_ret (v := faultV c true i) (by simp [results, Tryz.results63, go_sem]) rfl ⟨rfl, by (repeat (first | exact Below.refl _ _ | assumption | refine Below.drew ?_ | refine below_many ?_ _ | refine Below.alloc ?_ (by first | (simp; done) | (simp; omega) | omega) _ | refine Below.setCell ?_ (by first | (simp; done) | (simp; omega) | omega) _))⟩

set_option maxRecDepth 100000 in
set_option maxHeartbeats 4000000 in
theorem fault_at {B : Nat} {p : Nat → Addr} {w : World} (hE : Errs (List.range 21) B p w) {k : Nat} (hk : k < 21) {b : Nat} {i : Int} (hA : AtCells p w b i k) :
    Calls Tryz.prog 50 #[atV b] w fun e w' => e = .returned (faultV (101 + k) true i) ∧ Below w.heap.size w w' := by
  have HE := Lib.hid hE; clear hE
  have ha := assert_at ⟨b, 0, none⟩
  have hbl := hA.lt
  have hne : ¬ b = w.heap.size := by omega
  have c0 := hA.pos
  have c1 := hA.err
  unfold ev errV at c1
  clear hA
  go_enter Tryz.func50, Tryz.ntmps50
  go_wp2_with fail
  have h0 : Below w.heap.size w (w.alloc (Obj.cells #[Value.int IntKind.i64 0, Value.bool false, Value.int IntKind.i64 0] 41)).drew := by (repeat (first | exact Below.refl _ _ | assumption | refine Below.drew ?_ | refine below_many ?_ _ | refine Below.alloc ?_ (by first | (simp; done) | (simp; omega) | omega) _ | refine Below.setCell ?_ (by first | (simp; done) | (simp; omega) | omega) _))
  have d0 := (h0.cell (p := ⟨b, 0, none⟩) hbl).trans c0
  have d1 := (h0.cell (p := ⟨b, 1, none⟩) hbl).trans c1
  have hsz0 : w.heap.size < (w.alloc (Obj.cells #[Value.int IntKind.i64 0, Value.bool false, Value.int IntKind.i64 0] 41)).drew.heap.size := by simp
  have q0 : (w.alloc (Obj.cells #[Value.int IntKind.i64 0, Value.bool false, Value.int IntKind.i64 0] 41)).drew.cell? ⟨w.heap.size, 0, none⟩ = some (.int .i64 0) := by go_simp
  have q1 : (w.alloc (Obj.cells #[Value.int IntKind.i64 0, Value.bool false, Value.int IntKind.i64 0] 41)).drew.cell? ⟨w.heap.size, 1, none⟩ = some (.bool false) := by go_simp
  have q2 : (w.alloc (Obj.cells #[Value.int IntKind.i64 0, Value.bool false, Value.int IntKind.i64 0] 41)).drew.cell? ⟨w.heap.size, 2, none⟩ = some (.int .i64 0) := by go_simp
  have r0 : ∀ j, (w.alloc (Obj.cells #[Value.int IntKind.i64 0, Value.bool false, Value.int IntKind.i64 0] 41)).drew.frozen? ⟨w.heap.size, j, none⟩ = false := by intro j; go_simp
  have H0 := Lib.hid h0
  have Q := Lib.hid (And.intro q0 (And.intro q1 (And.intro q2 (And.intro r0 (And.intro d0 d1)))))
  clear q0 q1 q2 r0 d0 d1 h0
  go_region_with (first
    | (go_at_call 65; refine (sentinel_calls (HE.out.below (H0.out.mono HE.out.size)) hk).mono ?_; rintro e w1 ⟨rfl, hb1⟩; have hB1 := H0.out.trans (hb1.mono H0.out.size); have q0 := (hb1.cell (p := ⟨w.heap.size, 0, none⟩) hsz0).trans Q.out.1; have q1 := (hb1.cell (p := ⟨w.heap.size, 1, none⟩) hsz0).trans Q.out.2.1; have q2 := (hb1.cell (p := ⟨w.heap.size, 2, none⟩) hsz0).trans Q.out.2.2.1; have f0 := (hb1.frozen (p := ⟨w.heap.size, 0, none⟩) hsz0).trans (Q.out.2.2.2.1 0); have f1 := (hb1.frozen (p := ⟨w.heap.size, 1, none⟩) hsz0).trans (Q.out.2.2.2.1 1); have f2 := (hb1.frozen (p := ⟨w.heap.size, 2, none⟩) hsz0).trans (Q.out.2.2.2.1 2); have d0 := (hb1.cell (p := ⟨b, 0, none⟩) (Nat.lt_trans hbl hsz0)).trans Q.out.2.2.2.2.1; have hs1 : w.heap.size < w1.heap.size := Nat.lt_of_lt_of_le hsz0 hb1.size; clear hb1)
    | (go_at_call 63; refine (placed_calls _ _ (by omega) _).mono ?_; rintro e w2 ⟨rfl, hb2⟩; have hB2 := Below.trans hB1 (hb2.mono hB1.size); have q0' := (hb2.cell (p := ⟨w.heap.size, 0, none⟩) hs1).trans q0; have q1' := (hb2.cell (p := ⟨w.heap.size, 1, none⟩) hs1).trans q1; have q2' := (hb2.cell (p := ⟨w.heap.size, 2, none⟩) hs1).trans q2; have f0' := (hb2.frozen (p := ⟨w.heap.size, 0, none⟩) hs1).trans f0; have f1' := (hb2.frozen (p := ⟨w.heap.size, 1, none⟩) hs1).trans f1; have f2' := (hb2.frozen (p := ⟨w.heap.size, 2, none⟩) hs1).trans f2; have hs2 : w.heap.size < w2.heap.size := Nat.lt_of_lt_of_le hs1 hb2.size; clear hb2 q0 q1 q2 f0 f1 f2 hB1))
  all_goals
    go_wp2_with fail
    refine bodyPost_ret (v := faultV (101 + k) true i) (by simp [results, Tryz.results50, go_sem, q0', q1', q2', f0', f1', f2', hs2]) rfl ⟨rfl, ?_⟩
    clear q0' q1' q2' f0' f1' f2' d0 Q
    (repeat (first | exact Below.refl _ _ | assumption | refine Below.drew ?_ | refine below_many ?_ _ | refine Below.alloc ?_ (by first | (simp; done) | (simp; omega) | omega) _ | refine Below.setCell ?_ (by first | (simp; done) | (simp; omega) | omega) _))

set_option maxRecDepth 100000 in
theorem same_at {B : Nat} {p : Nat → Addr} {w : World} (hE : Errs (List.range 21) B p w) {k : Nat} (hk : k < 21) {nb : Nat} {i : Int} (hA : AtCells p w nb i k) (c : Int) (b : Bool) (q : Int) :
    Calls Tryz.prog 19 #[atV nb, faultV c b q] w fun e w' => e = .returned (.bool (sameF (101 + k) true i c b q)) ∧ Below w.heap.size w w' := by
  have HE := Lib.hid hE; clear hE
  have HA := Lib.hid hA; clear hA
  unfold faultV
  go_enter Tryz.func19, Tryz.ntmps19
  go_wp2_with fail
  have h0 : Below w.heap.size w (w.alloc (Obj.cells #[Value.int IntKind.i64 c, Value.bool b, Value.int IntKind.i64 q] 41)).drew := by (repeat (first | exact Below.refl _ _ | assumption | refine Below.drew ?_ | refine below_many ?_ _ | refine Below.alloc ?_ (by first | (simp; done) | (simp; omega) | omega) _ | refine Below.setCell ?_ (by first | (simp; done) | (simp; omega) | omega) _))
  go_region_held3 (fun w1 => w1.cell? ⟨w.heap.size, 0, none⟩ = some (.int .i64 c) ∧ w1.cell? ⟨w.heap.size, 1, none⟩ = some (.bool b) ∧ w1.cell? ⟨w.heap.size, 2, none⟩ = some (.int .i64 q) ∧ Below w.heap.size w w1 ∧ w.heap.size < w1.heap.size)
    (((repeat' apply And.intro) <;> (first | (exact hB.trans (hb.mono (by omega))) | (have hsz := hb.size; omega) | (rw [hb.cell (p := ⟨_, _, none⟩) (by first | assumption | (simp; done))]; assumption) | assumption | (simp [*]; done))))
    (first | (go_at_call 50; obtain ⟨hc0, hc1, hc2, hB, hs⟩ := ‹_ ∧ _›; refine (fault_at (HE.out.below (hB.mono HE.out.size)) hk (HA.out.below hB)).mono ?_; rintro e w1 ⟨rfl, hb⟩) | (go_at_call 49; obtain ⟨hc0, hc1, hc2, hB, hs⟩ := ‹_ ∧ _›; refine (sameFault_calls _ _ _ _ _ _ _).mono ?_; rintro e w1 ⟨rfl, hb⟩))
  go_wp2
  go_ret
  exact ⟨rfl, by simp [*]⟩

end Go.Proofs.YtchbkceconlbkaaGreatDoor
