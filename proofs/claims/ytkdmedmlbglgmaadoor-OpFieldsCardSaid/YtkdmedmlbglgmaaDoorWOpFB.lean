/- The walk of pledgelaw25.OpFields: it returns true, and writes nothing that was there. (Written by gen_fields.py.) -/
import Derived.Test.YtkdmedmlbglgmaaDoorOpFirst
import Derived.Test.YtkdmedmlbglgmaaDoorNum
import Derived.Deep.RegionHeld3
import Derived.Deep.DeepCutAuto
namespace Go.Proofs.YtkdmedmlbglgmaaDoor
open Go Go.RowKit
set_option linter.unusedSimpArgs false
set_option linter.unusedVariables false

theorem row_uses : (#[.string ⟨#[65, 66, 78]⟩, .string ⟨#[65, 66, 67, 68, 78]⟩, .string ⟨#[65, 78]⟩, .string ⟨#[65, 78]⟩, .string ⟨#[65, 66, 78]⟩, .string ⟨#[78]⟩, .string ⟨#[65, 66, 67]⟩, .string ⟨#[65, 66, 78]⟩, .string ⟨#[65, 78]⟩, .string ⟨#[65, 66, 78]⟩, .string ⟨#[65, 66, 78]⟩, .string ⟨#[65, 66, 67, 78, 77]⟩, .string ⟨#[78]⟩, .string ⟨#[65, 78]⟩, .string ⟨#[65, 66, 78]⟩, .string ⟨#[78, 77]⟩] : Array Value) = row16 usesB := by rfl
theorem contains_any : ∀ k, k < 17 → ∀ j, j < 6 → Lib.contains (usesB k).data.toList [letterAt j] = (usesB k).data.toList.any (· == letterAt j) := by decide +kernel
def wantB (k : Int) (j : Nat) (x : Int) : Bool := decide (x = 0) || (usesHas k j && (decide (0 < x) && decide (x ≤ mostI j)))
theorem want_bad (k : Int) (j : Nat) (x : Int) : fieldBad k j x = !wantB k j x := by
  unfold fieldBad wantB
  have hm : 0 < mostI j := by unfold mostI; split <;> decide
  by_cases h0 : x = 0
  · subst h0; simp; omega
  · cases usesHas k j with
    | false => simp [h0]
    | true =>
      simp [h0]
      by_cases h1 : x < 0
      · simp [h1]; omega
      · by_cases h2 : mostI j < x
        · simp [h2]
        · simp [h1, h2]; omega
theorem fieldBad_zero (k : Int) (j : Nat) : fieldBad k j 0 = false := by
  rw [want_bad]; simp [wantB]
theorem validC_one {k a b c d n m : Int} (hk : isK k = true) {j : Nat} {x : Int} (hj : j < 6) (hx : fieldAt a b c d n m j = x) (hz : ∀ i, i < 6 → i ≠ j → fieldAt a b c d n m i = 0) : validC 5 k a b c d n m = if wantB k j x then 0 else 1 := by
  cases hw : wantB k j x with
  | true =>
    refine (validC_ok (by decide) (by decide) hk fun i hi => ?_).trans (by simp)
    by_cases e : i = j
    · subst e; rw [hx, want_bad, hw]; rfl
    · rw [hz i hi e, fieldBad_zero]
  | false =>
    refine (validC_bad (by decide) (by decide) hk hj ?_).trans (by simp)
    rw [hx, want_bad, hw]; rfl
theorem validC_kind (a b c d n m : Int) : validC 5 17 a b c d n m = 2 := by
  unfold validC; rw [if_neg (by decide), if_pos (by decide)]
theorem validC_id (k a b c d n m : Int) : validC 0 k a b c d n m = 1 := by
  unfold validC; rw [if_pos (by decide)]
def upL (u : ByteArray) (c : UInt8) (q : Nat) : Bool := (u.data.toList.take q).any (· == c)
theorem upL_succ {u : ByteArray} {c : UInt8} {q : Nat} (h : q < u.size) : upL u c (q + 1) = (upL u c q || (u[q]'h == c)) := by
  have hq : q < u.data.toList.length := h
  unfold upL
  rw [List.take_add_one, List.getElem?_eq_getElem hq, List.any_append]
  simp
  rfl
theorem u8_eq (a b : UInt8) : (a == b) = ((a.toNat : Int) == (b.toNat : Int)) := by
  rw [Bool.eq_iff_iff]
  simp only [beq_iff_eq, Int.natCast_inj]
  exact UInt8.toNat_inj.symm
theorem frozen_new (w : World) (cs : Array Value) (T : TypeId) (i : Nat) : (w.alloc (.cells cs T)).frozen? ⟨w.heap.size, i, none⟩ = false := by
  simp only [World.frozen?, World.alloc, Array.getElem?_push, if_true]
  simp
theorem is_two {B : Nat} {p : Nat → Addr} {w : World} (hE : Errs (List.range 21) B p w) : Calls Tryd.prog 12 #[ev p 2, .int .i64 103] w fun e w' => e = .returned (.bool true) ∧ Below w.heap.size w w' := is_ev hE (k := 2) (by decide) 103
theorem is_ten {B : Nat} {p : Nat → Addr} {w : World} (hE : Errs (List.range 21) B p w) : Calls Tryd.prog 12 #[ev p 10, .int .i64 111] w fun e w' => e = .returned (.bool true) ∧ Below w.heap.size w w' := is_ev hE (k := 10) (by decide) 111

end Go.Proofs.YtkdmedmlbglgmaaDoor
