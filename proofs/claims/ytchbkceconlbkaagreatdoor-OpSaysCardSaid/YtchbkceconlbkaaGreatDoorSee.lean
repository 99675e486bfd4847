/- More of package pledgesee and of pledgeref's faults: Bare, None, Placed, SameFault, Fault, Same, Is: what each call returns; nothing that lay there turns. -/
import Derived.Test.YtchbkceconlbkaaGreatDoorErr
import Derived.Deep.RegionHeld3
namespace Go.Proofs.YtchbkceconlbkaaGreatDoor
open Go Go.RowKit
set_option linter.unusedSimpArgs false
set_option linter.unusedVariables false

/-- A fault as a value. -/
abbrev faultV (c : Int) (b : Bool) (q : Int) : Value := .agg #[.int .i64 c, .bool b, .int .i64 q]
def sameF (c : Int) (b : Bool) (q : Int) (c' : Int) (b' : Bool) (q' : Int) : Bool := c == c' && (b == b' && q == q')

theorem bare_calls (c : Int) (w : World) : Calls Tryz.prog 26 #[.int .i64 c] w fun e w' => e = .returned (faultV c false 0) ∧ Below w.heap.size w w' := by
  go_enter Tryz.func26, Tryz.ntmps26
  go_wp2
  exact bodyPost_ret (v := faultV c false 0) (by simp [results, Tryz.results26, go_sem]) rfl ⟨rfl, by (repeat (first | exact Below.refl _ _ | assumption | refine Below.drew ?_ | refine below_many ?_ _ | refine Below.alloc ?_ (by first | (simp; done) | (simp; omega) | omega) _ | refine Below.setCell ?_ (by first | (simp; done) | (simp; omega) | omega) _))⟩

theorem none_calls (w : World) : Calls Tryz.prog 45 #[] w fun e w' => e = .returned (faultV 0 false 0) ∧ Below w.heap.size w w' := by
  go_enter Tryz.func45, Tryz.ntmps45
  go_wp2
  exact bodyPost_ret (v := faultV 0 false 0) (by simp [results, Tryz.results45, go_sem]) rfl ⟨rfl, by (repeat (first | exact Below.refl _ _ | assumption | refine Below.drew ?_ | refine below_many ?_ _ | refine Below.alloc ?_ (by first | (simp; done) | (simp; omega) | omega) _ | refine Below.setCell ?_ (by first | (simp; done) | (simp; omega) | omega) _))⟩

theorem sameFault_calls (c : Int) (b : Bool) (q : Int) (c' : Int) (b' : Bool) (q' : Int) (w : World) :
    Calls Tryz.prog 49 #[faultV c b q, faultV c' b' q'] w fun e w' => e = .returned (.bool (sameF c b q c' b' q')) ∧ Below w.heap.size w w' := by
  go_enter Tryz.func49, Tryz.ntmps49
  go_wp2
  all_goals
    go_ret
    refine ⟨congrArg (fun x => Ending.returned (Value.bool x)) (show _ = sameF _ _ _ _ _ _ by simp [sameF, *]), ?_⟩
    (repeat (first | exact Below.refl _ _ | assumption | refine Below.drew ?_ | refine below_many ?_ _ | refine Below.alloc ?_ (by first | (simp; done) | (simp; omega) | omega) _ | refine Below.setCell ?_ (by first | (simp; done) | (simp; omega) | omega) _))

theorem fault_nil (w : World) : Calls Tryz.prog 50 #[.nilIface] w fun e w' => e = .returned (faultV 0 false 0) ∧ Below w.heap.size w w' := by
  go_enter Tryz.func50, Tryz.ntmps50
  go_wp2_with fail
  refine (none_calls _).mono ?_
  rintro e w1 ⟨rfl, hb⟩
  obtain ⟨hc, hf⟩ := bcell hb
  have hz : w.heap.size < w1.heap.size := by have := hb.size; simp at this; omega
  have h1 : Below w.heap.size w w1 := ((Below.refl _ _).alloc (Nat.le_refl _) _).trans (hb.mono (by simp))
  go_wp2_with fail
  refine bodyPost_ret (v := faultV 0 false 0) (by simp [results, Tryz.results50, go_sem, hc, hz]) rfl ⟨rfl, ?_⟩
  clear hc hf hb
  (repeat (first | exact Below.refl _ _ | assumption | refine Below.drew ?_ | refine below_many ?_ _ | refine Below.alloc ?_ (by first | (simp; done) | (simp; omega) | omega) _ | refine Below.setCell ?_ (by first | (simp; done) | (simp; omega) | omega) _))

/-- What 'e.( *api.At)' says of a sentinel: it is none. -/
theorem assert_ev (a : Addr) (w : World) : (Instr.typeAssert (.iface 146 (.pointer (some a))) 29 68 true).run Tryz.prog w = .ok (.tuple #[.pointer none, .bool false]) w := by kernel_rfl
theorem assert_at (a : Addr) (w : World) : (Instr.typeAssert (.iface 68 (.pointer (some a))) 29 68 true).run Tryz.prog w = .ok (.tuple #[.pointer (some a), .bool true]) w := by kernel_rfl

set_option maxRecDepth 100000 in
theorem fault_ev {B : Nat} {p : Nat → Addr} {w : World} (hE : Errs (List.range 21) B p w) {k : Nat} (hk : k < 21) :
    Calls Tryz.prog 50 #[ev p k] w fun e w' => e = .returned (faultV (101 + k) false 0) ∧ Below w.heap.size w w' := by
  have HE := Lib.hid hE; clear hE
  unfold ev errV
  have ha := assert_ev (p k)
  go_enter Tryz.func50, Tryz.ntmps50
  go_wp2_with fail
  have h0 : Below w.heap.size w (w.alloc (Obj.cells #[Value.int IntKind.i64 0, Value.bool false, Value.int IntKind.i64 0] 41)) := (Below.refl _ _).alloc (Nat.le_refl _) _
  refine (sentinel_calls (HE.out.below (h0.mono HE.out.size)) hk).mono ?_
  rintro e w1 ⟨rfl, hb⟩
  obtain ⟨hc, hf⟩ := bcell hb
  have hz : w.heap.size < w1.heap.size := by have := hb.size; simp at this; omega
  have h1 : Below w.heap.size w w1 := h0.trans (hb.mono (by simp))
  clear hb h0
  go_wp2_with fail
  refine (bare_calls _ _).mono ?_
  rintro e w2 ⟨rfl, hb⟩
  obtain ⟨hc2, hf2⟩ := bcell hb
  have hz2 : w.heap.size < w2.heap.size := by have := hb.size; omega
  have h2 : Below w.heap.size w w2 := h1.trans (hb.mono (by omega))
  clear hb h1
  go_wp2_with fail
  refine bodyPost_ret (v := faultV (101 + k) false 0) (by simp [results, Tryz.results50, go_sem, hc, hz, hc2, hz2]) rfl ⟨rfl, ?_⟩
  clear hc hf hc2 hf2
  (repeat (first | exact Below.refl _ _ | assumption | refine Below.drew ?_ | refine below_many ?_ _ | refine Below.alloc ?_ (by first | (simp; done) | (simp; omega) | omega) _ | refine Below.setCell ?_ (by first | (simp; done) | (simp; omega) | omega) _))

set_option maxRecDepth 100000 in
theorem same_ev {B : Nat} {p : Nat → Addr} {w : World} (hE : Errs (List.range 21) B p w) {k : Nat} (hk : k < 21) (c : Int) (b : Bool) (q : Int) :
    Calls Tryz.prog 19 #[ev p k, faultV c b q] w fun e w' => e = .returned (.bool (sameF (101 + k) false 0 c b q)) ∧ Below w.heap.size w w' := by
  have HE := Lib.hid hE; clear hE
  unfold faultV
  go_enter Tryz.func19, Tryz.ntmps19
  go_wp2_with fail
  have h0 : Below w.heap.size w (w.alloc (Obj.cells #[Value.int IntKind.i64 c, Value.bool b, Value.int IntKind.i64 q] 41)).drew := by (repeat (first | exact Below.refl _ _ | assumption | refine Below.drew ?_ | refine below_many ?_ _ | refine Below.alloc ?_ (by first | (simp; done) | (simp; omega) | omega) _ | refine Below.setCell ?_ (by first | (simp; done) | (simp; omega) | omega) _))
  go_region_held3 (fun w1 => w1.cell? ⟨w.heap.size, 0, none⟩ = some (.int .i64 c) ∧ w1.cell? ⟨w.heap.size, 1, none⟩ = some (.bool b) ∧ w1.cell? ⟨w.heap.size, 2, none⟩ = some (.int .i64 q) ∧ Below w.heap.size w w1 ∧ w.heap.size < w1.heap.size)
    (((repeat' apply And.intro) <;> (first | (exact hB.trans (hb.mono (by omega))) | (have hsz := hb.size; omega) | (rw [hb.cell (p := ⟨_, _, none⟩) (by first | assumption | (simp; done))]; assumption) | assumption | (simp [*]; done))))
    (first | (go_at_call 50; obtain ⟨hc0, hc1, hc2, hB, hs⟩ := ‹_ ∧ _›; refine (fault_ev (HE.out.below (hB.mono HE.out.size)) hk).mono ?_; rintro e w1 ⟨rfl, hb⟩) | (go_at_call 49; obtain ⟨hc0, hc1, hc2, hB, hs⟩ := ‹_ ∧ _›; refine (sameFault_calls _ _ _ _ _ _ _).mono ?_; rintro e w1 ⟨rfl, hb⟩))
  go_wp2
  go_ret
  exact ⟨rfl, by simp [*]⟩

set_option maxRecDepth 100000 in
theorem same_nil (c : Int) (b : Bool) (q : Int) (w : World) :
    Calls Tryz.prog 19 #[.nilIface, faultV c b q] w fun e w' => e = .returned (.bool (sameF 0 false 0 c b q)) ∧ Below w.heap.size w w' := by
  unfold faultV
  go_enter Tryz.func19, Tryz.ntmps19
  go_wp2_with fail
  have h0 : Below w.heap.size w (w.alloc (Obj.cells #[Value.int IntKind.i64 c, Value.bool b, Value.int IntKind.i64 q] 41)).drew := by (repeat (first | exact Below.refl _ _ | assumption | refine Below.drew ?_ | refine below_many ?_ _ | refine Below.alloc ?_ (by first | (simp; done) | (simp; omega) | omega) _ | refine Below.setCell ?_ (by first | (simp; done) | (simp; omega) | omega) _))
  go_region_held3 (fun w1 => w1.cell? ⟨w.heap.size, 0, none⟩ = some (.int .i64 c) ∧ w1.cell? ⟨w.heap.size, 1, none⟩ = some (.bool b) ∧ w1.cell? ⟨w.heap.size, 2, none⟩ = some (.int .i64 q) ∧ Below w.heap.size w w1 ∧ w.heap.size < w1.heap.size)
    (((repeat' apply And.intro) <;> (first | (exact hB.trans (hb.mono (by omega))) | (have hsz := hb.size; omega) | (rw [hb.cell (p := ⟨_, _, none⟩) (by first | assumption | (simp; done))]; assumption) | assumption | (simp [*]; done))))
    (first | (go_at_call 50; obtain ⟨hc0, hc1, hc2, hB, hs⟩ := ‹_ ∧ _›; refine (fault_nil _).mono ?_; rintro e w1 ⟨rfl, hb⟩) | (go_at_call 49; obtain ⟨hc0, hc1, hc2, hB, hs⟩ := ‹_ ∧ _›; refine (sameFault_calls _ _ _ _ _ _ _).mono ?_; rintro e w1 ⟨rfl, hb⟩))
  go_wp2
  go_ret
  exact ⟨rfl, by simp [*]⟩

theorem is_ev {B : Nat} {p : Nat → Addr} {w : World} (hE : Errs (List.range 21) B p w) {k : Nat} (hk : k < 21) (c : Int) :
    Calls Tryz.prog 7 #[ev p k, .int .i64 c] w fun e w' => e = .returned (.bool ((101 + (k : Int)) == c)) ∧ Below w.heap.size w w' := by
  have HE := Lib.hid hE; clear hE
  go_enter Tryz.func7, Tryz.ntmps7
  go_wp2_with fail
  refine (bare_calls _ _).mono ?_
  rintro e w1 ⟨rfl, hb⟩
  go_wp2_with fail
  refine (same_ev (HE.out.below (hb.mono HE.out.size)) hk _ _ _).mono ?_
  rintro e w2 ⟨rfl, hb2⟩
  go_wp2_with fail
  go_ret
  exact ⟨congrArg (fun x => Ending.returned (Value.bool x)) (by simp [sameF]), hb.trans (hb2.mono hb.size)⟩

theorem is_nil (c : Int) (w : World) :
    Calls Tryz.prog 7 #[.nilIface, .int .i64 c] w fun e w' => e = .returned (.bool (0 == c)) ∧ Below w.heap.size w w' := by
  go_enter Tryz.func7, Tryz.ntmps7
  go_wp2_with fail
  refine (bare_calls _ _).mono ?_
  rintro e w1 ⟨rfl, hb⟩
  go_wp2_with fail
  refine (same_nil _ _ _ _).mono ?_
  rintro e w2 ⟨rfl, hb2⟩
  go_wp2_with fail
  go_ret
  exact ⟨congrArg (fun x => Ending.returned (Value.bool x)) (by simp [sameF]), hb.trans (hb2.mono hb.size)⟩

end Go.Proofs.YtchbkceconlbkaaGreatDoor
