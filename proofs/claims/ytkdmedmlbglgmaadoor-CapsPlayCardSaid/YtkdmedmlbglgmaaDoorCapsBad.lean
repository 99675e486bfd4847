/- (*caps.Caps).Sum of a line that may not be: told at its place. -/
import Derived.Test.YtkdmedmlbglgmaaDoorCapsSum
import Derived.Test.YtkdmedmlbglgmaaDoorAt
namespace Go.Proofs.YtkdmedmlbglgmaaDoor
open Go.Maps
open Go Go.RowKit
set_option linter.unusedSimpArgs false
set_option linter.unusedVariables false

set_option maxRecDepth 100000 in
set_option maxHeartbeats 4000000 in
/-- A line that may not be, told at its place. -/
theorem sum_bad {ks : List Nat} {B : Nat} {p : Nat → Addr} {w : World} (hE : Errs ks B p w) (h2 : 2 ∈ ks) (pt : Value) {v : Value} {L : List (G × Int)} (hL : LinesAt w v L) {n : Nat} {y : G × Int} (hy : L[n]? = some y) (hbad : fitsL y = false) (hf : ∀ j x, j < n → L[j]? = some x → fitsL x = true) :
    Calls Tryd.prog 10 #[pt, v] w fun e w' => Below w.heap.size w w' ∧ ∃ nb, e = .returned (.tuple #[.int .i64 0, atV nb]) ∧ AtCells p w' nb n 2 := by
  obtain ⟨a, cap, rfl, hcap, hmx, hcells⟩ := hL
  unfold maxLen at hmx
  have hmm := @run_makeMap Tryd.prog
  have HC : Hid (L = [] ∨ ∃ b off, a = some ⟨b, off, none⟩ ∧ b < w.heap.size ∧ ∀ i x, L[i]? = some x →
    w.cell? ⟨b, off + i * 4, none⟩ = some (.int .i64 x.1.1) ∧ w.cell? ⟨b, off + i * 4 + 1, none⟩ = some (.int .i64 x.1.2.1) ∧ w.cell? ⟨b, off + i * 4 + 2, none⟩ = some (.int .i64 x.1.2.2) ∧ w.cell? ⟨b, off + i * 4 + 3, none⟩ = some (.int .i64 x.2)) := hcells
  have HE := Lib.hid hE
  have HF := Lib.hid hf
  have c2 := hE.cell 2 h2
  simp only [gl] at c2
  have hlt2 := World.block_lt_of_cell? w _ c2
  have hnl : n < L.length := (List.getElem?_eq_some_iff.1 hy).1
  clear hcells hE hf
  go_enter Tryd.func10, Tryd.ntmps10
  go_wp2_with fail
  go_loopw [18] (fun i wq => ∃ m : Nat, m ≤ n ∧ i = .int .i64 m ∧ Hid (Below w.heap.size w wq)) (fun i _ => L.length - (intOf i).toNat)
  case atStart => exact ⟨0, Nat.zero_le _, rfl, Below.refl _ _⟩
  case round =>
    obtain ⟨m, hm, rfl, hB⟩ := hrel
    have hlm : m < L.length := by omega
    by_cases hmn : m < n
    · obtain ⟨b', off, rfl, hb, hcell⟩ := HC.out.resolve_left (by intro e; rw [e] at hlm; simp at hlm)
      obtain ⟨x, hx⟩ : ∃ x, L[m]? = some x := ⟨_, List.getElem?_eq_getElem hlm⟩
      obtain ⟨c0, c1, c2, c3⟩ := hcell m x hx
      have hfx : Hid (fitsL ((x.1.1, x.1.2.1, x.1.2.2), x.2) = true) := HF.out m x hmn hx
      obtain ⟨⟨x1, x2, x3⟩, x4⟩ := x
      have d0 := (hB.out.cell (p := ⟨b', off + m * 4, none⟩) hb).trans c0
      have d1 := (hB.out.cell (p := ⟨b', off + m * 4 + 1, none⟩) hb).trans c1
      have d2 := (hB.out.cell (p := ⟨b', off + m * 4 + 2, none⟩) hb).trans c2
      have d3 := (hB.out.cell (p := ⟨b', off + m * 4 + 3, none⟩) hb).trans c3
      simp only at d0 d1 d2 d3
      clear hcell c0 c1 c2 c3 hx
      go_wp2_with fail
      refine (fits_calls x1 x2 x3 x4 _).mono ?_
      rintro e w1 ⟨rfl, hb1⟩
      rw [hfx.out]
      have HB1 := Lib.hid (hB.out.trans ((((Below.refl _ _).alloc (Nat.le_refl _) _).trans (hb1.mono (by simp))).mono hB.out.size))
      clear hb1 d0 d1 d2 d3 hB
      go_wp2_with fail
      go_roundw
      case rel => exact ⟨m + 1, by omega, by go_num, HB1⟩
      case measure => simp [intOf]; omega
    · obtain rfl : m = n := by omega
      clear hmn hm
      obtain ⟨b', off, rfl, hb, hcell⟩ := HC.out.resolve_left (by intro e; rw [e] at hlm; simp at hlm)
      obtain ⟨x, hx⟩ : ∃ x, L[m]? = some x := ⟨_, List.getElem?_eq_getElem hlm⟩
      obtain ⟨c0, c1, c2, c3⟩ := hcell m x hx
      have hfx : Hid (fitsL ((x.1.1, x.1.2.1, x.1.2.2), x.2) = false) := by unfold Hid; rw [hy] at hx; cases hx; exact hbad
      obtain ⟨⟨x1, x2, x3⟩, x4⟩ := x
      have d0 := (hB.out.cell (p := ⟨b', off + m * 4, none⟩) hb).trans c0
      have d1 := (hB.out.cell (p := ⟨b', off + m * 4 + 1, none⟩) hb).trans c1
      have d2 := (hB.out.cell (p := ⟨b', off + m * 4 + 2, none⟩) hb).trans c2
      have d3 := (hB.out.cell (p := ⟨b', off + m * 4 + 3, none⟩) hb).trans c3
      simp only at d0 d1 d2 d3
      clear hcell c0 c1 c2 c3 hx
      go_wp2_with fail
      refine (fits_calls x1 x2 x3 x4 _).mono ?_
      rintro e w1 ⟨rfl, hb1⟩
      rw [hfx.out]
      have HB1 := Lib.hid (hB.out.trans ((((Below.refl _ _).alloc (Nat.le_refl _) _).trans (hb1.mono (by simp))).mono hB.out.size))
      clear hb1 d0 d1 d2 d3 hB
      have d2 := (HB1.out.cell (p := ⟨0, 0, none⟩) hlt2).trans c2
      go_wp2_with fail
      go_region_with fail
      all_goals
        have hb1 := HB1.out
        have hs1 := hb1.size
        go_wp2_with fail
        go_ret2
        exact ⟨by (repeat (first | exact Below.refl _ _ | assumption | refine Below.drew ?_ | refine below_many ?_ _ | refine Below.alloc ?_ (by first | (simp; done) | (simp; omega) | omega) _ | refine Below.setCell ?_ (by first | (simp; done) | (simp; omega) | omega) _)), _, rfl, ⟨by go_simp, (show _ = some (Value.iface 215 (.pointer (some (p 2)))) by go_simp)⟩⟩

end Go.Proofs.YtkdmedmlbglgmaaDoor
