/- The walk of pledgelaw25.OpFields at one field. (Written by gen_fields.py.) -/
import Derived.Test.YtkdmedmlbglgmaaDoorWOpFB
namespace Go.Proofs.YtkdmedmlbglgmaaDoor
open Go Go.RowKit
set_option linter.unusedSimpArgs false
set_option linter.unusedVariables false

set_option maxHeartbeats 16000000 in
set_option maxRecDepth 100000 in
theorem walk_OpFields5 {p : Nat → Addr} {w : World} (hE : Errs (List.range 21) w.heap.size p w) (hT : OpW w.heap.size w) (kind which n : Int) (l1 : -9223372036854775808 ≤ kind) (u1 : kind ≤ 9223372036854775807) (l2 : -9223372036854775808 ≤ which) (u2 : which ≤ 9223372036854775807) (l3 : -9223372036854775808 ≤ n) (u3 : n ≤ 9223372036854775807) (hJ : which % 6 = 5) :
    Calls Tryd.prog 5 #[.int .i64 kind, .int .i64 which, .int .i64 n] w fun e w' => e = .returned (.bool true) ∧ Below w.heap.size w w' := by
  have HE := Lib.hid hE; clear hE
  have HT := Lib.hid hT; clear hT
  have hk0 := Int.emod_nonneg kind (show (16 : Int) ≠ 0 by decide)
  have hk1 := Int.emod_lt_of_pos kind (show (0 : Int) < 16 by decide)
  have hj0 := Int.emod_nonneg which (show (6 : Int) ≠ 0 by decide)
  have hj1 := Int.emod_lt_of_pos which (show (0 : Int) < 6 by decide)
  have HNk := Lib.hid (number_calls kind 16 (by decide) (by decide))
  have HNw := Lib.hid (number_calls which 6 (by decide) (by decide))
  obtain ⟨k, hk⟩ : ∃ k : Int, k = kind % 16 + 1 := ⟨_, rfl⟩
  obtain ⟨j, hj⟩ : ∃ j : Int, j = which % 6 := ⟨_, rfl⟩
  have hke : kind % 16 = k - 1 := by omega
  rw [hke] at hk0 hk1 HNk
  rw [← hj] at hj0 hj1 HNw
  have h1k : 1 ≤ k := by omega
  have h2k : k ≤ 16 := by omega
  have hjJ : j = 5 := hj.trans hJ
  clear hk hj hke l1 u1 l2 u2 l3 u3 hk0 hk1 hJ
  have hkw : IntKind.i64.wrap (k - 1 + 1) = k := by rw [show k - 1 + 1 = k by omega]; exact IntWalk.i64_in _ (by omega)
  have HKw := Lib.hid hkw
  clear hkw
  go_enter Tryd.func5, Tryd.ntmps5
  go_wp2_with fail
  refine (first25_calls HE.out HT.out).mono ?_
  rintro e w1 ⟨rfl, hb⟩
  have HB := Lib.hid hb
  have HE := Lib.hid (HE.out.below hb)
  have HT := Lib.hid (HT.out.on hb)
  have hbw := hb.size
  clear hb
  go_wp2_with fail
  refine (HNk.out _).mono ?_
  rintro e _ ⟨rfl, rfl⟩
  have hkw := HKw.out
  have hks : k - 1 + 1 = k := by omega
  go_wp2_with fail
  refine (HNw.out _).mono ?_
  rintro e _ ⟨rfl, rfl⟩
  clear HNk HNw hkw HKw
  try rw [hks]
  clear hks
  clear hj0 hj1
  have hcell := row16_cell w1 usesB 9 (j := k.toNat - 1) (by omega)
  rw [show k.toNat - 1 + 1 = k.toNat by omega] at hcell
  have hal : Below w1.heap.size w1 (w1.alloc (.cells (row16 usesB) 9)) := (Below.refl _ _).alloc (Nat.le_refl _) _
  have HB := Lib.hid (bbase HB.out hal)
  have HE := Lib.hid (HE.out.below (hal.mono HE.out.size))
  have HT := Lib.hid (HT.out.on hal)
  have hsz : w.heap.size < (w1.alloc (.cells (row16 usesB) 9)).heap.size := by simp; omega
  have hcon := fun i hi => contains_any k.toNat (by omega) i hi
  have hus := uses_size k.toNat
  have hisk : isK k = true := by simp [isK, h1k, h2k]
  clear hal
  obtain ⟨R, hR⟩ : ∃ R, R = w1.alloc (.cells (row16 usesB) 9) := ⟨_, rfl⟩
  rw [← hR] at hcell HB HE HT hsz
  rw [← row_uses] at hR
  generalize hu : usesB k.toNat = u at hcell hcon hus
  have HU : Hid (∀ i, i < 6 → usesHas k i = upL u (letterAt i) u.size) := fun i hi => by
    unfold usesHas upL
    rw [hu, hcon i hi, List.take_of_length_le (Nat.le_refl u.size)]
  clear hu hcon
  have HR := Lib.hid hR
  have hRs : R.heap.size = w1.heap.size + 1 := by rw [hR]; simp
  have hcl := hcell
  rw [hR] at hcl
  clear hR
  subst hjJ
  go_upto_region 10 with fail
  rw [← HR.out]
  clear HR hcl hcell
  rw [show (((⟨#[65, 66, 67, 68, 78, 77]⟩ : ByteArray)[5]).toNat : Int) = 77 from rfl]
  obtain ⟨R2, hR2⟩ : ∃ R2, R2 = R.alloc (Obj.cells #[.int .i64 5, .int .i64 k, .int .i64 0, .int .i64 0, .int .i64 0, .int .i64 0, .int .i64 0, .int .i64 0] 61) := ⟨_, rfl⟩
  have hO2 := opAt_new R 5 k 0 0 0 0 0 0 61
  have hf2 : ∀ i, R2.frozen? ⟨R.heap.size, i, none⟩ = false := fun i => by rw [hR2]; exact frozen_new _ _ _ _
  have hal : Below R.heap.size R (R.alloc (Obj.cells #[.int .i64 5, .int .i64 k, .int .i64 0, .int .i64 0, .int .i64 0, .int .i64 0, .int .i64 0, .int .i64 0] 61)) := (Below.refl _ _).alloc (Nat.le_refl _) _
  rw [← hR2] at hO2 hal ⊢
  rw [← hRs]
  have HB := Lib.hid (bbase HB.out hal)
  have HE := Lib.hid (HE.out.below (hal.mono HE.out.size))
  have HT := Lib.hid (HT.out.on hal)
  have HRs := Lib.hid hRs
  clear hR2 hal hRs
  generalize R.heap.size = bo at hO2 hf2 hsz ⊢
  go_cut [40] (fun v wx => (∃ q, v = .bool q) ∧ R2 = wx)
  case first =>
    by_cases c1 : n < -1
    · have hd : decide (n < -1) = true := decide_eq_true c1
      go_wp2_with fail
      go_meet
      exact ⟨⟨_, rfl⟩, rfl⟩
    · have hd : decide (n < -1) = false := decide_eq_false c1
      go_wp2_with fail
      go_meet
      exact ⟨⟨_, rfl⟩, rfl⟩
  case rest =>
  obtain ⟨⟨q40, rfl⟩, rfl⟩ := hcut
  go_upto_if 40 with fail
  go_cut [2] (fun v wx => (∃ x, v = .int .i64 x) ∧ R2 = wx)
  case first =>
    cases q40 with
    | true =>
      go_wp2_with fail
      go_meet
      exact ⟨⟨_, rfl⟩, rfl⟩
    | false =>
      go_wp2_with fail
      go_meet
      exact ⟨⟨_, rfl⟩, rfl⟩
  case rest =>
    obtain ⟨⟨x, rfl⟩, rfl⟩ := hcut
    have hc7 := hO2.c7
    obtain ⟨R3, hR3⟩ : ∃ R3, R3 = R2.setCell ⟨bo, 7, none⟩ (.int .i64 x) := ⟨_, rfl⟩
    have hO3 : OpAt R3 bo 5 k 0 0 0 0 0 x := by
      rw [hR3]
      exact ⟨(cell_setCell_other (by decide)).trans hO2.c0, (cell_setCell_other (by decide)).trans hO2.c1, (cell_setCell_other (by decide)).trans hO2.c2, (cell_setCell_other (by decide)).trans hO2.c3, (cell_setCell_other (by decide)).trans hO2.c4, (cell_setCell_other (by decide)).trans hO2.c5, (cell_setCell_other (by decide)).trans hO2.c6, World.cell?_setCell_same _ _ _ hc7⟩
    have hf3 : ∀ i, R3.frozen? ⟨bo, i, none⟩ = false := fun i => by rw [hR3, frozen_setCell]; exact hf2 i
    have hb3 : Below w.heap.size w R3 := by rw [hR3]; exact HB.out.setCell (show w.heap.size ≤ bo by omega) _
    have HE3 := Lib.hid (HE.out.below (by rw [hR3]; exact (Below.refl _ _).setCell (show w.heap.size ≤ bo by omega) _ : Below w.heap.size R2 R3))
    have HT3 := Lib.hid (HT.out.below (by rw [hR3]; exact (Below.refl _ _).setCell (show w.heap.size ≤ bo by omega) _ : Below w.heap.size R2 R3))
    go_upto_region 26 with fail
    rw [← hR3]
    have hs3 : w.heap.size < R3.heap.size := by have := hO3.lt; have := hb3.size; omega
    clear hR3 hO2 hf2 HB HE HT hc7
    have hus2 : 0 ≤ (u.size : Int) := by omega
    go_wp2_with fail
    go_loop [13, 12] (fun i v => ∃ q : Nat, q ≤ u.size ∧ i = .int .i64 q ∧ v = .bool (upL u 77 q)) (fun i _ => u.size - (intOf i).toNat)
    case atStart => exact ⟨0, by omega, rfl, rfl⟩
    case round =>
      obtain ⟨q, hq, rfl, rfl⟩ := hrel
      by_cases hqu : q < u.size
      · have hsucc : Hid (upL u 77 (q + 1) = (upL u 77 q || (u[q]'hqu == 77))) := upL_succ hqu
        rw [u8_eq, show ((((77 : UInt8)).toNat : Nat) : Int) = 77 from rfl] at hsucc
        cases hacc : upL u 77 q with
        | true =>
          rw [hacc] at hsucc
          clear hacc
          go_wp2_with fail
          go_round
          case rel => exact ⟨q + 1, by omega, by go_num, by rw [hsucc.out]; rfl⟩
          case measure => simp [intOf]; omega
        | false =>
          rw [hacc] at hsucc
          clear hacc
          generalize hce : (u[q]'hqu).toNat = cq at hsucc
          go_wp2_with fail
          go_round
          case rel => exact ⟨q + 1, by omega, by go_num, by rw [hsucc.out]; simp [hce]⟩
          case measure => simp [intOf]; omega
      · obtain rfl : q = u.size := by omega
        have hin := HU.out 5 (by decide)
        rw [show letterAt 5 = 77 from rfl] at hin
        rw [← hin]
        obtain ⟨s, hs⟩ : ∃ s, s = usesHas k 5 := ⟨_, rfl⟩
        have hw0 : wantB k 5 x = (decide (x = 0) || (s && (decide (0 < x) && decide (x ≤ 1000000000000000)))) := by rw [hs]; rfl
        have HV1 := validC_one (a := 0) (b := 0) (c := 0) (d := 0) (n := 0) (m := x) hisk (j := 5) (x := x) (by decide) rfl (fun i hi hne => by
          have : i = 0 ∨ i = 1 ∨ i = 2 ∨ i = 3 ∨ i = 4 ∨ i = 5 := by omega
          rcases this with rfl | rfl | rfl | rfl | rfl | rfl <;> first | rfl | exact absurd rfl hne)
        rw [hw0] at HV1
        rw [← hs]
        clear hs hw0 hin HU hisk hus hus2
        obtain ⟨q, hq⟩ : ∃ q : Bool, q = (decide (x = 0) || (s && (decide (0 < x) && decide (x ≤ 1000000000000000)))) := ⟨_, rfl⟩
        rw [← hq] at HV1
        have HQ := Lib.hid hq
        obtain ⟨ce, hce⟩ : ∃ ce, ce = validC 5 k 0 0 0 0 0 x := ⟨_, rfl⟩
        rw [← hce] at HV1
        have HC := Lib.hid HV1
        have HVa := Lib.hid (valid_calls HE3.out HT3.out 5 k 0 0 0 0 0 x)
        rw [← hce] at HVa
        clear hq HV1 hce
        go_upto_region 31 with fail
        go_cut [14] (fun v wx => v = .bool q ∧ R3 = wx)
        case first =>
          have hq := HQ.out
          by_cases x0 : x = 0
          · have hd : decide (x = 0) = true := decide_eq_true x0
            obtain rfl : q = true := by rw [hq, hd]; rfl
            subst x0
            clear hq
            go_wp2_with fail
            go_meet
            exact ⟨rfl, rfl⟩
          · have hd : decide (x = 0) = false := decide_eq_false x0
            have hd' : (x == 0) = false := by simpa using x0
            rw [hd] at hq
            cases s with
            | false =>
              obtain rfl : q = false := hq
              go_wp2_with fail
              go_meet
              exact ⟨rfl, rfl⟩
            | true =>
              by_cases x1 : 0 < x
              · have hd1 : decide (0 < x) = true := decide_eq_true x1
                rw [hd1] at hq
                by_cases x2 : x ≤ 1000000000000000
                · have hd2 : decide (x ≤ 1000000000000000) = true := decide_eq_true x2
                  rw [hd2] at hq
                  obtain rfl : q = true := hq
                  go_wp2_with fail
                  go_meet
                  exact ⟨rfl, rfl⟩
                · have hd2 : decide (x ≤ 1000000000000000) = false := decide_eq_false x2
                  rw [hd2] at hq
                  obtain rfl : q = false := hq
                  go_wp2_with fail
                  go_meet
                  exact ⟨rfl, rfl⟩
              · have hd1 : decide (0 < x) = false := decide_eq_false x1
                rw [hd1] at hq
                obtain rfl : q = false := hq
                go_wp2_with fail
                go_meet
                exact ⟨rfl, rfl⟩
        case rest =>
          obtain ⟨rfl, rfl⟩ := hcut
          have hc0 := hO3.c0; have hc1 := hO3.c1; have hc2 := hO3.c2; have hc3 := hO3.c3; have hc4 := hO3.c4; have hc5 := hO3.c5; have hc6 := hO3.c6; have hc7 := hO3.c7
          clear HQ
          go_wp2_with fail
          refine HVa.out.mono ?_
          rintro e w5 ⟨rfl, hb⟩
          have hc0 := hO3.lt
          have HO5 := hO3.below hb
          have hf5 : ∀ i, w5.frozen? ⟨bo, i, none⟩ = false := fun i => (hb.frozen (p := ⟨bo, i, none⟩) hO3.lt).trans (hf3 i)
          have HB5 := bbase hb3 hb
          have HE5 := Lib.hid (HE3.out.below (hb.mono HE3.out.size))
          have HT5 := Lib.hid (HT3.out.on hb)
          obtain ⟨v1, hv1⟩ : ∃ v1, v1 = valV p ce := ⟨_, rfl⟩
          rw [← hv1]
          have HV1 := Lib.hid hv1
          have hbo : w.heap.size ≤ bo := by omega
          clear hb hv1 HVa hO3 hf3 hb3 HE3 HT3 hs3 hc1 hc2 hc3 hc4 hc5 hc6 hc7 hc0
          have hc0 := HO5.c0; have hc1 := HO5.c1; have hc2 := HO5.c2; have hc3 := HO5.c3; have hc4 := HO5.c4; have hc5 := HO5.c5; have hc6 := HO5.c6; have hc7 := HO5.c7
          have hfr := hf5 1
          obtain ⟨W6, hW6⟩ : ∃ W6, W6 = w5.setCell ⟨bo, 1, none⟩ (.int .i64 17) := ⟨_, rfl⟩
          have HO6 : Hid (OpAt W6 bo 5 17 0 0 0 0 0 x) := by
            rw [hW6]
            exact ⟨(cell_setCell_other (by decide)).trans hc0, World.cell?_setCell_same _ _ _ hc1, (cell_setCell_other (by decide)).trans hc2, (cell_setCell_other (by decide)).trans hc3, (cell_setCell_other (by decide)).trans hc4, (cell_setCell_other (by decide)).trans hc5, (cell_setCell_other (by decide)).trans hc6, (cell_setCell_other (by decide)).trans hc7⟩
          have hb6 : Below w.heap.size w5 W6 := by rw [hW6]; exact (Below.refl _ _).setCell (show w.heap.size ≤ bo from hbo) _
          have HB6 := Lib.hid (HB5.trans hb6)
          have hf6 : Hid (∀ i, W6.frozen? ⟨bo, i, none⟩ = false) := fun i => by rw [hW6, frozen_setCell]; exact hf5 i
          have HE6 := Lib.hid (HE5.out.below hb6)
          have HT6 := Lib.hid (HT5.out.below hb6)
          have HW6 := Lib.hid hW6
          clear hW6 hb6 HB5 hf5 HE5 HT5 HO5
          go_wp2_with fail
          rw [← HW6.out]
          clear HW6 hfr hc0 hc1 hc2 hc3 hc4 hc5 hc6 hc7
          have HVb := valid_calls HE6.out HT6.out 5 17 0 0 0 0 0 x
          rw [validC_kind, show valV p 2 = ev p 10 from rfl] at HVb
          refine HVb.mono ?_
          rintro e w7 ⟨rfl, hb⟩
          have HO7 := HO6.out.below hb
          have hf7 : ∀ i, w7.frozen? ⟨bo, i, none⟩ = false := fun i => (hb.frozen (p := ⟨bo, i, none⟩) HO6.out.lt).trans (hf6.out i)
          have HB7 := bbase HB6.out hb
          have HE7 := Lib.hid (HE6.out.below (hb.mono HE6.out.size))
          have HT7 := Lib.hid (HT6.out.on hb)
          clear hb HVb HO6 hf6 HB6 HE6 HT6
          have hc0 := HO7.c0; have hc1 := HO7.c1; have hc2 := HO7.c2; have hc3 := HO7.c3; have hc4 := HO7.c4; have hc5 := HO7.c5; have hc6 := HO7.c6; have hc7 := HO7.c7
          have hfr := hf7 0
          obtain ⟨W8, hW8⟩ : ∃ W8, W8 = w7.setCell ⟨bo, 0, none⟩ (.int .i64 0) := ⟨_, rfl⟩
          have hb8 : Below w.heap.size w7 W8 := by rw [hW8]; exact (Below.refl _ _).setCell (show w.heap.size ≤ bo from hbo) _
          have HB8 := Lib.hid (HB7.trans hb8)
          have HE8 := Lib.hid (HE7.out.below hb8)
          have HT8 := Lib.hid (HT7.out.below hb8)
          have HW8 := Lib.hid hW8
          clear hW8 hb8 HB7 hf7 HE7 HT7 HO7
          go_wp2_with fail
          rw [← HW8.out]
          clear HW8 hfr hc0 hc1 hc2 hc3 hc4 hc5 hc6 hc7
          have HVd := valid_calls HE8.out HT8.out 0 17 0 0 0 0 0 x
          rw [validC_id, show valV p 1 = ev p 2 from rfl] at HVd
          refine HVd.mono ?_
          rintro e w9 ⟨rfl, hb⟩
          have HB9 := Lib.hid (bbase HB8.out hb)
          have HE9 := Lib.hid (HE8.out.below (hb.mono HE8.out.size))
          clear hb HVd HB8 HE8 HT8
          cases q with
          | true =>
            obtain rfl : v1 = .nilIface := by rw [HV1.out, HC.out]; rfl
            go_wp2_with fail
            refine (is_ten HE9.out).mono ?_
            rintro e w11 ⟨rfl, hb⟩
            have HB9 := Lib.hid (bbase HB9.out hb)
            have HE9 := Lib.hid (HE9.out.below (hb.mono HE9.out.size))
            go_wp2_with fail
            refine (is_two HE9.out).mono ?_
            rintro e w12 ⟨rfl, hb⟩
            have HB9 := Lib.hid (bbase HB9.out hb)
            go_wp2_with fail
            go_ret
            exact ⟨rfl, HB9.out⟩
          | false =>
            obtain rfl : v1 = .iface 215 (.pointer (some (p 2))) := by rw [HV1.out, HC.out]; rfl
            go_wp2_with fail
            refine (is_two HE9.out).mono ?_
            rintro e w10 ⟨rfl, hb⟩
            have HB9 := Lib.hid (bbase HB9.out hb)
            have HE9 := Lib.hid (HE9.out.below (hb.mono HE9.out.size))
            go_wp2_with fail
            refine (is_ten HE9.out).mono ?_
            rintro e w11 ⟨rfl, hb⟩
            have HB9 := Lib.hid (bbase HB9.out hb)
            have HE9 := Lib.hid (HE9.out.below (hb.mono HE9.out.size))
            go_wp2_with fail
            refine (is_two HE9.out).mono ?_
            rintro e w12 ⟨rfl, hb⟩
            have HB9 := Lib.hid (bbase HB9.out hb)
            go_wp2_with fail
            go_ret
            exact ⟨rfl, HB9.out⟩
end Go.Proofs.YtkdmedmlbglgmaaDoor
