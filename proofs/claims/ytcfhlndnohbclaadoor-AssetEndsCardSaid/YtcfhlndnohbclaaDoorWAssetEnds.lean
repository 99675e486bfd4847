/- The walk of pledgelaw10.AssetEnds: it returns true, and writes nothing that was there. -/
import Derived.Test.YtcfhlndnohbclaaDoorSee
import Derived.Test.YtcfhlndnohbclaaDoorAsset
import Derived.Test.YtcfhlndnohbclaaDoorNum
namespace Go.Proofs.YtcfhlndnohbclaaDoor
open Go Go.RowKit
set_option linter.unusedSimpArgs false
set_option linter.unusedVariables false

theorem first10_calls (w : World) : Calls Tryd.prog 14 #[] w fun e w' => e = .returned (.bool true) ∧ Below w.heap.size w w' := by
  go_enter Tryd.func14, Tryd.ntmps14
  go_wp2_with fail
  refine (live_calls 1 0 2 1 0 _ _).mono ?_
  rintro e w1 ⟨rfl, hb⟩
  rw [show liveB 0 5 = true from rfl]
  go_wp2_with fail
  go_ret
  exact ⟨rfl, hb⟩

set_option maxRecDepth 100000 in
theorem walk_AssetEnds {p : Nat → Addr} {w : World} (hE : Errs (List.range 21) w.heap.size p w) (en td : Int) (h1 : -9223372036854775808 ≤ en) (h2 : en ≤ 9223372036854775807) (h3 : -9223372036854775808 ≤ td) (h4 : td ≤ 9223372036854775807) :
    Calls Tryd.prog 3 #[.int .i64 en, .int .i64 td] w fun e w' => e = .returned (.bool true) ∧ Below w.heap.size w w' := by
  have HE := Lib.hid hE; clear hE
  go_enter Tryd.func3, Tryd.ntmps3
  go_wp2_with fail
  refine (first10_calls _).mono ?_
  rintro e w1 ⟨rfl, hb0⟩
  have hs0 := hb0.size
  go_wp2_with fail
  refine (number_calls en 40000 (by decide) (by decide) _).mono ?_
  rintro e w2 ⟨rfl, rfl⟩
  have hn0 := Int.emod_nonneg en (show (40000 : Int) ≠ 0 by decide)
  have hn1 := Int.emod_lt_of_pos en (show (0 : Int) < 40000 by decide)
  generalize en % 40000 = n at *
  clear h1 h2
  go_wp2_with fail
  refine (live_calls _ _ _ _ _ _ _).mono ?_
  rintro e w2 ⟨rfl, HB⟩
  obtain ⟨hc, hf⟩ := bcell HB
  rw [show liveB (n + 1) n = true from decide_eq_true (by omega)]
  go_wp2_with fail
  refine (live_calls _ _ _ _ _ _ _).mono ?_
  rintro e w3 ⟨rfl, hb⟩
  have HB3 := bstep HB hb
  clear hb HB hc hf
  obtain ⟨hc, hf⟩ := bcell HB3
  rw [show liveB (n + 1) (n + 1) = false from decide_eq_false (by omega)]
  go_wp2_with fail
  refine (live_calls _ _ _ _ _ _ _).mono ?_
  rintro e w4 ⟨rfl, hb⟩
  have HB4 := bstep HB3 hb
  clear hb HB3 hc hf
  obtain ⟨hc, hf⟩ := bcell HB4
  rw [show liveB (n + 1) td = decide (td < n + 1) from decide_eq_decide.2 (by omega)]
  go_wp2_with fail
  refine (live_calls _ _ _ _ _ _ _).mono ?_
  rintro e w5 ⟨rfl, hb⟩
  have HB5 := bstep HB4 hb
  clear hb HB4 hc hf
  obtain ⟨hc, hf⟩ := bcell HB5
  rw [show liveB 0 td = true from decide_eq_true (by omega)]
  go_wp2_with fail
  refine (valid_calls (HE.out.below (bbase (by (repeat (first | exact Below.refl _ _ | assumption | refine Below.drew ?_ | refine Below.alloc ?_ (by first | (simp; done) | (simp; omega) | omega) _ | refine Below.setCell ?_ (by first | (simp; done) | (simp; omega) | omega) _))) HB5)) (by decide) _ _ _ _ _).mono ?_
  rintro e w6 ⟨rfl, hb⟩
  have HB6 := bstep HB5 hb
  clear hb HB5 hc hf
  obtain ⟨hc, hf⟩ := bcell HB6
  rw [validV_ok (decide_eq_true (by omega))]
  go_wp2_with fail
  refine (valid_calls (HE.out.below (bbase (by (repeat (first | exact Below.refl _ _ | assumption | refine Below.drew ?_ | refine Below.alloc ?_ (by first | (simp; done) | (simp; omega) | omega) _ | refine Below.setCell ?_ (by first | (simp; done) | (simp; omega) | omega) _))) HB6)) (by decide) _ _ _ _ _).mono ?_
  rintro e w7 ⟨rfl, hb⟩
  have HB7 := bstep HB6 hb
  clear hb HB6 hc hf
  obtain ⟨hc, hf⟩ := bcell HB7
  rw [validV_bad (decide_eq_false (by omega))]
  go_wp2_with fail
  refine (is_ev (HE.out.below (bbase (by (repeat (first | exact Below.refl _ _ | assumption | refine Below.drew ?_ | refine Below.alloc ?_ (by first | (simp; done) | (simp; omega) | omega) _ | refine Below.setCell ?_ (by first | (simp; done) | (simp; omega) | omega) _))) HB7)) (k := 2) (by decide) _).mono ?_
  rintro e w8 ⟨rfl, hb⟩
  have HB8 := bstep HB7 hb
  clear hb HB7 hc hf
  obtain ⟨hc, hf⟩ := bcell HB8
  go_wp2_with fail
  refine (valid_calls (HE.out.below (bbase (by (repeat (first | exact Below.refl _ _ | assumption | refine Below.drew ?_ | refine Below.alloc ?_ (by first | (simp; done) | (simp; omega) | omega) _ | refine Below.setCell ?_ (by first | (simp; done) | (simp; omega) | omega) _))) HB8)) (by decide) _ _ _ _ _).mono ?_
  rintro e w9 ⟨rfl, hb⟩
  have HB9 := bstep HB8 hb
  clear hb HB8 hc hf
  obtain ⟨hc, hf⟩ := bcell HB9
  rw [validV_bad (decide_eq_false (by omega))]
  go_wp2_with fail
  refine (is_ev (HE.out.below (bbase (by (repeat (first | exact Below.refl _ _ | assumption | refine Below.drew ?_ | refine Below.alloc ?_ (by first | (simp; done) | (simp; omega) | omega) _ | refine Below.setCell ?_ (by first | (simp; done) | (simp; omega) | omega) _))) HB9)) (k := 2) (by decide) _).mono ?_
  rintro e w10 ⟨rfl, hb⟩
  have HB10 := bstep HB9 hb
  clear hb HB9 hc hf
  obtain ⟨hc, hf⟩ := bcell HB10
  go_wp2_with fail
  refine (valid_calls (HE.out.below (bbase (by (repeat (first | exact Below.refl _ _ | assumption | refine Below.drew ?_ | refine Below.alloc ?_ (by first | (simp; done) | (simp; omega) | omega) _ | refine Below.setCell ?_ (by first | (simp; done) | (simp; omega) | omega) _))) HB10)) (by decide) _ _ _ _ _).mono ?_
  rintro e w11 ⟨rfl, hb⟩
  have HB11 := bstep HB10 hb
  clear hb HB10 hc hf
  obtain ⟨hc, hf⟩ := bcell HB11
  rw [validV_ok (decide_eq_true (by omega))]
  go_wp2_with fail
  go_ret
  exact ⟨rfl, bbase (by (repeat (first | exact Below.refl _ _ | assumption | refine Below.drew ?_ | refine Below.alloc ?_ (by first | (simp; done) | (simp; omega) | omega) _ | refine Below.setCell ?_ (by first | (simp; done) | (simp; omega) | omega) _))) HB11⟩

end Go.Proofs.YtcfhlndnohbclaaDoor
