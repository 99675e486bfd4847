/- The words and the letters of the kinds of operations: op.names, uses, is, Name, fields. (Written by gen_op.py.) -/
import Derived.Test.YtchbkceconlbkaaGreatDoorOpTab
namespace Go.Proofs.YtchbkceconlbkaaGreatDoor
open Go Go.RowKit
set_option linter.unusedSimpArgs false
set_option linter.unusedVariables false

/-- The word of kind k; the letters of the fields that it uses. -/
def wordB : Nat → ByteArray
  | 1 => ⟨#[106, 111, 105, 110]⟩
  | 2 => ⟨#[97, 115, 115, 101, 116]⟩
  | 3 => ⟨#[112, 114, 105, 99, 101]⟩
  | 4 => ⟨#[114, 97, 116, 101]⟩
  | 5 => ⟨#[99, 117, 116]⟩
  | 6 => ⟨#[102, 120, 99, 117, 116]⟩
  | 7 => ⟨#[101, 108, 105, 103]⟩
  | 8 => ⟨#[99, 97, 112]⟩
  | 9 => ⟨#[110, 101, 101, 100]⟩
  | 10 => ⟨#[100, 101, 112, 111, 115, 105, 116]⟩
  | 11 => ⟨#[119, 105, 116, 104, 100, 114, 97, 119]⟩
  | 12 => ⟨#[101, 120, 99, 104, 97, 110, 103, 101]⟩
  | 13 => ⟨#[116, 105, 99, 107]⟩
  | 14 => ⟨#[114, 101, 98, 97, 116, 101]⟩
  | 15 => ⟨#[115, 99, 101, 110, 101]⟩
  | 16 => ⟨#[102, 117, 110, 100]⟩
  | _ => ⟨#[]⟩
def usesB : Nat → ByteArray
  | 1 => ⟨#[65, 66, 78]⟩
  | 2 => ⟨#[65, 66, 67, 68, 78]⟩
  | 3 => ⟨#[65, 78]⟩
  | 4 => ⟨#[65, 78]⟩
  | 5 => ⟨#[65, 66, 78]⟩
  | 6 => ⟨#[78]⟩
  | 7 => ⟨#[65, 66, 67]⟩
  | 8 => ⟨#[65, 66, 78]⟩
  | 9 => ⟨#[65, 78]⟩
  | 10 => ⟨#[65, 66, 78]⟩
  | 11 => ⟨#[65, 66, 78]⟩
  | 12 => ⟨#[65, 66, 67, 78, 77]⟩
  | 13 => ⟨#[78]⟩
  | 14 => ⟨#[65, 78]⟩
  | 15 => ⟨#[65, 66, 78]⟩
  | 16 => ⟨#[78, 77]⟩
  | _ => ⟨#[]⟩
/-- The letters of the fields, in order. -/
def lettersB : ByteArray := ⟨#[65, 66, 67, 68, 78, 77]⟩
def namesText : ByteArray := ⟨#[106, 111, 105, 110, 32, 97, 115, 115, 101, 116, 32, 112, 114, 105, 99, 101, 32, 114, 97, 116, 101, 32, 99, 117, 116, 32, 102, 120, 99, 117, 116, 32, 101, 108, 105, 103, 32, 99, 97, 112, 32, 110, 101, 101, 100, 32, 100, 101, 112, 111, 115, 105, 116, 32, 119, 105, 116, 104, 100, 114, 97, 119, 32, 101, 120, 99, 104, 97, 110, 103, 101, 32, 116, 105, 99, 107, 32, 114, 101, 98, 97, 116, 101, 32, 115, 99, 101, 110, 101, 32, 102, 117, 110, 100]⟩
def usesText : ByteArray := ⟨#[65, 66, 78, 32, 65, 66, 67, 68, 78, 32, 65, 78, 32, 65, 78, 32, 65, 66, 78, 32, 78, 32, 65, 66, 67, 32, 65, 66, 78, 32, 65, 78, 32, 65, 66, 78, 32, 65, 66, 78, 32, 65, 66, 67, 78, 77, 32, 78, 32, 65, 78, 32, 65, 66, 78, 32, 78, 77]⟩
def blankB : ByteArray := ⟨#[32]⟩
theorem names_split : (Lib.splitB blankB 0 (Lib.countB namesText blankB) namesText).map Value.string = (List.range 16).map fun j => Value.string (wordB (j + 1)) := by kernel_rfl
theorem uses_split : (Lib.splitB blankB 0 (Lib.countB usesText blankB) usesText).map Value.string = (List.range 16).map fun j => Value.string (usesB (j + 1)) := by kernel_rfl
theorem names_count : Lib.countB namesText blankB + 1 = 16 := by kernel_rfl
theorem uses_count : Lib.countB usesText blankB + 1 = 16 := by kernel_rfl

/-- The row of sixteen texts. -/
def row16 (f : Nat → ByteArray) : Array Value := ((List.range 16).map fun j => Value.string (f (j + 1))).toArray
theorem row16_cell (w : World) (f : Nat → ByteArray) (T : TypeId) {j : Nat} (hj : j < 16) : (w.alloc (.cells (row16 f) T)).cell? ⟨w.heap.size, j, none⟩ = some (.string (f (j + 1))) := by
  simp only [World.cell?, World.alloc, Array.getElem?_push, if_true, row16]
  simp [hj]

theorem names_calls {B : Nat} {w : World} (hT : OpW B w) :
    Calls Tryz.prog 30 #[] w fun e w' => e = .returned (.slice (some ⟨w.heap.size, 0, none⟩) 16 16) ∧ w' = w.alloc (.cells (row16 wordB) 9) := by
  have hc := split_calls hT namesText blankB (by decide) (by decide)
  rw [names_count, names_split] at hc
  change Calls _ _ _ _ fun e w' => _ ∧ w' = w.alloc (.cells (row16 wordB) _) at hc
  generalize row16 wordB = R at hc ⊢
  go_enter Tryz.func30, Tryz.ntmps30
  go_wp2_with fail
  refine hc.mono ?_
  rintro e w1 ⟨rfl, rfl⟩
  go_wp2_with fail
  go_ret
  exact ⟨rfl, rfl⟩

theorem uses_calls {B : Nat} {w : World} (hT : OpW B w) {k : Int} (h1 : 1 ≤ k) (h2 : k ≤ 16) :
    Calls Tryz.prog 29 #[.int .i64 k] w fun e w' => e = .returned (.string (usesB k.toNat)) ∧ Below w.heap.size w w' := by
  have hc := split_calls hT usesText blankB (by decide) (by decide)
  rw [uses_count, uses_split] at hc
  change Calls _ _ _ _ fun e w' => _ ∧ w' = w.alloc (.cells (row16 usesB) _) at hc
  have hcell := row16_cell w usesB 9 (j := k.toNat - 1) (by omega)
  rw [show k.toNat - 1 + 1 = k.toNat by omega] at hcell
  have hbd : Below w.heap.size w (w.alloc (.cells (row16 usesB) 9)) := (Below.refl _ _).alloc (Nat.le_refl _) _
  generalize usesB k.toNat = u at hcell ⊢
  generalize row16 usesB = R at hc hcell hbd ⊢
  obtain ⟨w2, hw2⟩ : ∃ w2, w2 = w.alloc (.cells R 9) := ⟨_, rfl⟩
  rw [← hw2] at hcell hbd
  have hc := Lib.hid hc
  go_enter Tryz.func29, Tryz.ntmps29
  go_wp2_with fail
  refine hc.out.mono ?_
  rintro e w1 ⟨rfl, hw1⟩
  rw [← hw2] at hw1
  subst hw1
  clear hw2 hc
  go_wp2_with fail
  go_ret
  exact ⟨rfl, hbd⟩

def isK (k : Int) : Bool := decide (1 ≤ k) && decide (k ≤ 16)
theorem isOp_calls (k : Int) (w : World) : Calls Tryz.prog 27 #[.int .i64 k] w fun e w' => e = .returned (.bool (isK k)) ∧ w = w' := by
  by_cases h1 : 1 ≤ k
  · have hd : decide (k ≥ 1) = true := decide_eq_true h1
    have he : isK k = decide (k ≤ 16) := by simp [isK, h1]
    rw [he]
    go_enter Tryz.func27, Tryz.ntmps27
    go_wp2_with fail
    go_ret
    exact ⟨rfl, rfl⟩
  · have hd : decide (k ≥ 1) = false := decide_eq_false h1
    have he : isK k = false := by simp [isK, h1]
    rw [he]
    go_enter Tryz.func27, Tryz.ntmps27
    go_wp2_with fail
    go_ret
    exact ⟨rfl, rfl⟩

/-- What op.Name answers. -/
def nameB (k : Int) : ByteArray := if isK k then wordB k.toNat else ⟨#[]⟩
theorem name_calls {B : Nat} {w : World} (hT : OpW B w) (k : Int) :
    Calls Tryz.prog 9 #[.int .i64 k] w fun e w' => e = .returned (.string (nameB k)) ∧ Below w.heap.size w w' := by
  cases hk : isK k with
  | false =>
    have hn : nameB k = ⟨#[]⟩ := by simp [nameB, hk]
    rw [hn]
    go_enter Tryz.func9, Tryz.ntmps9
    go_wp2_with fail
    refine (isOp_calls _ _).mono ?_
    rintro e w1 ⟨rfl, rfl⟩
    rw [hk]
    go_wp2_with fail
    go_ret
    exact ⟨rfl, Below.refl _ _⟩
  | true =>
    have hn : nameB k = wordB k.toNat := by simp [nameB, hk]
    have h1 : 1 ≤ k ∧ k ≤ 16 := by simpa [isK] using hk
    obtain ⟨h1, h2⟩ := h1
    rw [hn]
    have hcell := row16_cell w wordB 9 (j := k.toNat - 1) (by omega)
    rw [show k.toNat - 1 + 1 = k.toNat by omega] at hcell
    have hbd : Below w.heap.size w (w.alloc (.cells (row16 wordB) 9)) := (Below.refl _ _).alloc (Nat.le_refl _) _
    generalize wordB k.toNat = u at hcell ⊢
    have hc := names_calls hT
    generalize row16 wordB = R at hc hcell hbd ⊢
    obtain ⟨w2, hw2⟩ : ∃ w2, w2 = w.alloc (.cells R 9) := ⟨_, rfl⟩
    rw [← hw2] at hcell hbd
    have hc := Lib.hid hc
    go_enter Tryz.func9, Tryz.ntmps9
    go_wp2_with fail
    refine (isOp_calls _ _).mono ?_
    rintro e w1 ⟨rfl, rfl⟩
    rw [hk]
    go_wp2_with fail
    refine hc.out.mono ?_
    rintro e w1 ⟨rfl, hw1⟩
    rw [← hw2] at hw1
    subst hw1
    clear hw2 hc
    go_wp2_with fail
    go_ret
    exact ⟨rfl, hbd⟩

/-- An operation as a value; its fields. -/
abbrev opV (id k a b c d n m : Int) : Value := .agg #[.int .i64 id, .int .i64 k, .int .i64 a, .int .i64 b, .int .i64 c, .int .i64 d, .int .i64 n, .int .i64 m]
def fieldAt (a b c d n m : Int) : Nat → Int
  | 0 => a
  | 1 => b
  | 2 => c
  | 3 => d
  | 4 => n
  | _ => m
theorem fields_calls (id k a b c d n m : Int) (w : World) :
    Calls Tryz.prog 25 #[opV id k a b c d n m] w fun e w' => ∃ g, e = .returned (.slice (some ⟨g, 0, none⟩) 6 6) ∧ w.heap.size ≤ g ∧ g < w'.heap.size ∧ Below w.heap.size w w' ∧ ∀ j, j < 6 → w'.cell? ⟨g, j, none⟩ = some (.int .i64 (fieldAt a b c d n m j)) := by
  go_enter Tryz.func25, Tryz.ntmps25
  go_wp2_with fail
  go_ret
  refine ⟨_, rfl, ?_, ?_, by (repeat (first | exact Below.refl _ _ | assumption | refine Below.drew ?_ | refine below_many ?_ _ | refine Below.alloc ?_ (by first | (simp; done) | (simp; omega) | omega) _ | refine Below.setCell ?_ (by first | (simp; done) | (simp; omega) | omega) _)), ?_⟩
  · simp
  · simp
  · intro j hj
    match j, hj with
    | 0, _ => go_simp <;> rfl
    | 1, _ => go_simp <;> rfl
    | 2, _ => go_simp <;> rfl
    | 3, _ => go_simp <;> rfl
    | 4, _ => go_simp <;> rfl
    | 5, _ => go_simp <;> rfl
end Go.Proofs.YtchbkceconlbkaaGreatDoor
