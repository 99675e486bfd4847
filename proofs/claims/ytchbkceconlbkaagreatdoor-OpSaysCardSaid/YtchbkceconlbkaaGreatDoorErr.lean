/- The statements' helpers on errors (package pledgesee, and the faults of pledgeref), over this seat's translation: what each call returns. The sentinels are given by their number k: 0 is ErrEnd (code 101), 20 is ErrNothing. -/
import Derived.Test.YtchbkceconlbkaaGreatDoorProg
import Derived.Test.YtchbkceconlbkaaGreatDoorLib
namespace Go.Proofs.YtchbkceconlbkaaGreatDoor
open Go Go.RowKit
set_option linter.unusedSimpArgs false
set_option linter.unusedVariables false

/-- The number of the package-level variable that holds sentinel k. -/
def gl : Nat → Nat
  | 0 => 6
  | 1 => 3
  | 2 => 0
  | 3 => 9
  | 4 => 2
  | 5 => 10
  | 6 => 11
  | 7 => 12
  | 8 => 13
  | 9 => 14
  | 10 => 1
  | 11 => 15
  | 12 => 16
  | 13 => 17
  | 14 => 18
  | 15 => 19
  | 16 => 20
  | 17 => 4
  | 18 => 5
  | 19 => 21
  | 20 => 22
  | k => k + 1000

/-- The sentinels ks lie below block B; sentinel k points to p k. -/
abbrev Errs (ks : List Nat) (B : Nat) (p : Nat → Addr) (w : World) : Prop := ErrW 146 gl ks B p w
/-- Sentinel k as a value. -/
abbrev ev (p : Nat → Addr) (k : Nat) : Value := errV 146 p k

theorem infoErr : ∃ i j, Tryz.prog.info? 146 = some i ∧ i.comparable = true ∧ Tryz.prog.info? 148 = some j ∧ j.size ≠ 0 := by
  have h : ((Tryz.prog.info? 146).map (·.comparable) = some true) := by kernel_rfl
  have h2 : ((Tryz.prog.info? 148).map (fun i => decide (i.size ≠ 0)) = some true) := by kernel_rfl
  obtain ⟨i, hi, hc⟩ := Option.map_eq_some_iff.1 h
  obtain ⟨j, hj, hd⟩ := Option.map_eq_some_iff.1 h2
  exact ⟨i, j, hi, hc, hj, by simpa using hd⟩

theorem eql_err {ks : List Nat} {B : Nat} {p : Nat → Addr} {w : World} (hE : Errs ks B p w) {g g' : Nat} (hg : g ∈ ks) (hg' : g' ∈ ks) :
    (binOp .eql 29 (.iface 146 (.pointer (some (p g)))) (.iface 146 (.pointer (some (p g'))))).run Tryz.prog w = .ok (.bool (g == g')) w := by
  obtain ⟨i, j, hi, hc, hj, hs⟩ := infoErr
  by_cases e : g = g'
  · subst e
    rw [run_eql_iface_ptr_same w (p g) Tryz.underlying29 Tryz.underlying146 hi hc hj]; simp
  · obtain ⟨c, t, h1⟩ := hE.row g hg
    obtain ⟨c', t', h2⟩ := hE.row g' hg'
    rw [run_eql_iface_ptr_other w Tryz.underlying29 Tryz.underlying146 hi hc hj hs (fun h => e (hE.inj g hg g' hg' h)) h1 h2]
    have : (g == g') = false := by simpa using e
    rw [this]

theorem alike_calls {ks : List Nat} {B : Nat} {p : Nat → Addr} {w : World} (hE : Errs ks B p w) {g g' : Nat} (hg : g ∈ ks) (hg' : g' ∈ ks) :
    Calls Tryz.prog 78 #[ev p g, ev p g'] w fun e w' => e = .returned (.bool (g == g')) ∧ w = w' := by
  have he := eql_err hE hg hg'
  unfold ev errV
  generalize p g = a at he ⊢
  generalize p g' = b at he ⊢
  clear hE hg hg'
  generalize (g == g') = q at he ⊢
  go_enter Tryz.func78, Tryz.ntmps78
  go_wp2
  go_ret
  exact ⟨rfl, rfl⟩

def sentRow (p : Nat → Addr) : Array Value := #[ev p 0, ev p 1, ev p 2, ev p 3, ev p 4, ev p 5, ev p 6, ev p 7, ev p 8, ev p 9, ev p 10, ev p 11, ev p 12, ev p 13, ev p 14, ev p 15, ev p 16, ev p 17, ev p 18, ev p 19, ev p 20]
theorem sentRow_get (p : Nat → Addr) (i : Nat) (h : i < 21) : (sentRow p)[i]? = some (ev p i) := by
  match i, h with
  | 0, _ => rfl
  | 1, _ => rfl
  | 2, _ => rfl
  | 3, _ => rfl
  | 4, _ => rfl
  | 5, _ => rfl
  | 6, _ => rfl
  | 7, _ => rfl
  | 8, _ => rfl
  | 9, _ => rfl
  | 10, _ => rfl
  | 11, _ => rfl
  | 12, _ => rfl
  | 13, _ => rfl
  | 14, _ => rfl
  | 15, _ => rfl
  | 16, _ => rfl
  | 17, _ => rfl
  | 18, _ => rfl
  | 19, _ => rfl
  | 20, _ => rfl
  | n + 21, h => exact absurd h (by omega)

set_option maxRecDepth 10000 in
theorem sentinels_calls {B : Nat} {p : Nat → Addr} {w : World} (hE : Errs (List.range 21) B p w) :
    Calls Tryz.prog 77 #[] w fun e w' => e = .returned (.slice (some ⟨w.heap.size, 0, none⟩) 21 21) ∧ w' = w.alloc (.cells (sentRow p) 29) := by
  have c0 := hE.cell 0 (by decide)
  have c1 := hE.cell 1 (by decide)
  have c2 := hE.cell 2 (by decide)
  have c3 := hE.cell 3 (by decide)
  have c4 := hE.cell 4 (by decide)
  have c5 := hE.cell 5 (by decide)
  have c6 := hE.cell 6 (by decide)
  have c7 := hE.cell 7 (by decide)
  have c8 := hE.cell 8 (by decide)
  have c9 := hE.cell 9 (by decide)
  have c10 := hE.cell 10 (by decide)
  have c11 := hE.cell 11 (by decide)
  have c12 := hE.cell 12 (by decide)
  have c13 := hE.cell 13 (by decide)
  have c14 := hE.cell 14 (by decide)
  have c15 := hE.cell 15 (by decide)
  have c16 := hE.cell 16 (by decide)
  have c17 := hE.cell 17 (by decide)
  have c18 := hE.cell 18 (by decide)
  have c19 := hE.cell 19 (by decide)
  have c20 := hE.cell 20 (by decide)
  clear hE
  simp only [gl] at c0 c1 c2 c3 c4 c5 c6 c7 c8 c9 c10 c11 c12 c13 c14 c15 c16 c17 c18 c19 c20
  go_enter Tryz.func77, Tryz.ntmps77
  go_wp2
  go_ret
  exact ⟨rfl, rfl⟩

theorem sentinel_calls {B : Nat} {p : Nat → Addr} {w : World} (hE : Errs (List.range 21) B p w) {k : Nat} (hk : k < 21) :
    Calls Tryz.prog 65 #[ev p k] w fun e w' => e = .returned (.int .i64 (101 + (k : Int))) ∧ Below w.heap.size w w' := by
  go_enter Tryz.func65, Tryz.ntmps65
  go_wp2_with fail
  refine (sentinels_calls hE).mono ?_
  rintro e w' ⟨rfl, hw'⟩
  have hb : Below w.heap.size w w' := by rw [hw']; exact (Below.refl _ _).alloc (Nat.le_refl _) _
  have hE' : Errs (List.range 21) B p w' := hE.below (hb.mono hE.size)
  have hcell : ∀ i : Nat, i < 21 → w'.cell? ⟨w.heap.size, i, none⟩ = some (ev p i) := by
    intro i hi
    rw [hw']
    have := sentRow_get p i hi
    simp only [World.cell?, World.alloc, Array.getElem?_push, if_true]
    simpa using this
  clear hw'
  have HE := Lib.hid hE'; clear hE' hE
  have HC := Lib.hid hcell; clear hcell
  go_wp2_with fail
  go_loop [4] (fun i => ∃ m : Nat, m ≤ k ∧ i = .int .i64 m) (fun i => 21 - (intOf i).toNat)
  case atStart => exact ⟨0, Nat.zero_le _, rfl⟩
  case round =>
    obtain ⟨m, hm, rfl⟩ := hrel
    have hc := HC.out m (by omega)
    by_cases hlt : m < k
    · have hne : (k == m) = false := by simp; omega
      have HA : Hid (Calls Tryz.prog 78 #[ev p k, ev p m] w' fun e w1 => e = .returned (.bool false) ∧ w' = w1) := by
        have := alike_calls HE.out (g := k) (g' := m) (by simp; omega) (by simp; omega)
        rw [hne] at this; exact this
      clear hne
      go_wp2_with (go_at_call 78; refine HA.out.mono ?_; rintro e w1 ⟨rfl, rfl⟩)
      go_round
      case rel => exact ⟨m + 1, by omega, by go_num⟩
      case measure => simp [intOf]; omega
    · obtain rfl : m = k := by omega
      have HA : Hid (Calls Tryz.prog 78 #[ev p m, ev p m] w' fun e w1 => e = .returned (.bool true) ∧ w' = w1) := by
        have := alike_calls HE.out (g := m) (g' := m) (by simp; omega) (by simp; omega)
        rw [show (m == m) = true by simp] at this; exact this
      go_wp2_with (go_at_call 78; refine HA.out.mono ?_; rintro e w1 ⟨rfl, rfl⟩)
      go_ret
      exact ⟨rfl, hb⟩

end Go.Proofs.YtchbkceconlbkaaGreatDoor
