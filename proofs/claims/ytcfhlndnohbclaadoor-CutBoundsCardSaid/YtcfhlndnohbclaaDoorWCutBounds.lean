/- The walk of pledgelaw12.CutBounds: it returns true, and writes nothing that was there. -/
import Derived.Test.YtcfhlndnohbclaaDoorWCutEnds
import Derived.Test.YtcfhlndnohbclaaDoorSee
namespace Go.Proofs.YtcfhlndnohbclaaDoor
open Go Go.RowKit
set_option linter.unusedSimpArgs false
set_option linter.unusedVariables false

theorem lad_fx_get {B : Nat} {w : World} {b o : Nat} {m : List ((Int × Int) × Int)} {fx : Int} (h : Lad B w b o m fx) :
    Calls Tryd.prog 26 #[.pointer (some ⟨b, o, none⟩)] w fun e w' => e = .returned (.int .i64 fx) ∧ w' = w := fx_calls h.cfx

set_option maxHeartbeats 2000000 in
set_option maxRecDepth 100000 in
theorem bounds_g1 {p : Nat → Addr} {w : World} (hE : Errs (List.range 21) w.heap.size p w) (cls bk bp : Int) (wc : (Lit.int .i64 cls).wf = true) (wb : (Lit.int .i64 bk).wf = true) (g0 : 0 ≤ bp) (g1 : bp ≤ 10000) (i0 : 1 ≤ cls) (i1 : cls ≤ 6) (i2 : 0 ≤ bk) (i3 : bk < 6) :
    Calls Tryd.prog 6 #[.int .i64 cls, .int .i64 bk, .int .i64 bp] w fun e w' => e = .returned (.bool true) ∧ Below w.heap.size w w' := by
  have HE := Lib.hid hE; clear hE
  have Wc := Lib.hid wc
  have Wb := Lib.hid wb
  clear wc wb
  have b0 : decide (0 ≤ bp) = true := decide_eq_true g0
  have b1 : decide (bp ≤ 10000) = true := decide_eq_true g1
  have d0 : decide (1 ≤ cls) = true := decide_eq_true i0
  have d1 : decide (cls ≤ 6) = true := decide_eq_true i1
  have d2 : decide (0 ≤ bk) = true := decide_eq_true i2
  have d3 : decide (bk < 6) = true := decide_eq_true i3
  go_enter Tryd.func6, Tryd.ntmps6
  go_wp2_with fail
  refine (first12_calls HE.out (by decide)).mono ?_
  rintro e w1 ⟨rfl, HB1⟩
  have hs1 := HB1.size
  go_wp2_with fail
  have hl0 := lad_new w.heap.size w1
  have HB2 : Below w.heap.size w (w1.alloc (Obj.cells #[.map none, .int .i64 0] 39)) := by (repeat (first | exact Below.refl _ _ | assumption | refine Below.drew ?_ | refine below_many ?_ _ | refine Below.alloc ?_ (by first | (simp; done) | (simp; omega) | omega) _ | refine Below.setCell ?_ (by first | (simp; done) | (simp; omega) | omega) _))
  refine (lad_set hl0 HB2.size 2 3 77 (by decide)).mono ?_
  rintro e w2 ⟨rfl, hL, hk⟩
  have HB3 : Below w.heap.size w w2 := HB2.trans (hk.below HB2.size (fun k hk' hs => by omega))
  generalize w1.heap.size = lb at *
  have HL := Lib.hid hL
  have HB := Lib.hid HB3
  clear hl0 HB2 hL hk HB3 HB1
  go_wp2_with fail
  refine (lad_set HL.out (Nat.le_trans hs1 (Nat.le_of_lt HL.out.lt)) cls bk bp (decide_eq_true (by omega))).mono ?_
  rintro e w3 ⟨rfl, hL, hk⟩
  have hB3 : Below w.heap.size w w3 := HB.out.trans (hk.below HB.out.size (fun k hk' hs => by omega))
  have HL3 := Lib.hid hL
  have HB3 := Lib.hid hB3
  clear hL hk hB3 HL HB
  go_wp2_with fail
  refine (lad_fx HL3.out bp (decide_eq_true (by omega))).mono ?_
  rintro e w4 ⟨rfl, hL, hk⟩
  have hB3 : Below w.heap.size w w4 := HB3.out.trans (hk.below HB3.out.size (fun k hk' hs => by omega))
  have HL4 := Lib.hid hL
  have HB4 := Lib.hid hB3
  clear hL hk hB3 HL3 HB3
  go_wp2_with fail
  refine (lad_get HL4.out cls bk Wc.out Wb.out).mono ?_
  rintro e w5 ⟨rfl, hb⟩
  have HL5 := Lib.hid (HL4.out.below hb)
  have HB5 := Lib.hid (bbase HB4.out hb)
  clear hb HL4 HB4
  rw [mget_mput_same]
  simp only [Option.getD_some]
  go_wp2_with fail
  refine (lad_fx_get HL5.out).mono ?_
  rintro e w6 ⟨rfl, rfl⟩
  go_wp2_with fail
  go_ret
  exact ⟨rfl, HB5.out⟩

set_option maxHeartbeats 2000000 in
set_option maxRecDepth 100000 in
theorem bounds_g2_0 {p : Nat → Addr} {w : World} (hE : Errs (List.range 21) w.heap.size p w) (cls bk bp : Int) (wc : (Lit.int .i64 cls).wf = true) (wb : (Lit.int .i64 bk).wf = true) (g0 : 0 ≤ bp) (g1 : bp ≤ 10000) (i0 : cls < 1) :
    Calls Tryd.prog 6 #[.int .i64 cls, .int .i64 bk, .int .i64 bp] w fun e w' => e = .returned (.bool true) ∧ Below w.heap.size w w' := by
  have HE := Lib.hid hE; clear hE
  have Wc := Lib.hid wc
  have Wb := Lib.hid wb
  clear wc wb
  have b0 : decide (0 ≤ bp) = true := decide_eq_true g0
  have b1 : decide (bp ≤ 10000) = true := decide_eq_true g1
  have d0 : decide (1 ≤ cls) = false := decide_eq_false (by omega)
  go_enter Tryd.func6, Tryd.ntmps6
  go_wp2_with fail
  refine (first12_calls HE.out (by decide)).mono ?_
  rintro e w1 ⟨rfl, HB1⟩
  have hs1 := HB1.size
  go_wp2_with fail
  have hl0 := lad_new w.heap.size w1
  have HB2 : Below w.heap.size w (w1.alloc (Obj.cells #[.map none, .int .i64 0] 39)) := by (repeat (first | exact Below.refl _ _ | assumption | refine Below.drew ?_ | refine below_many ?_ _ | refine Below.alloc ?_ (by first | (simp; done) | (simp; omega) | omega) _ | refine Below.setCell ?_ (by first | (simp; done) | (simp; omega) | omega) _))
  refine (lad_set hl0 HB2.size 2 3 77 (by decide)).mono ?_
  rintro e w2 ⟨rfl, hL, hk⟩
  have HB3 : Below w.heap.size w w2 := HB2.trans (hk.below HB2.size (fun k hk' hs => by omega))
  generalize w1.heap.size = lb at *
  have HL := Lib.hid hL
  have HB := Lib.hid HB3
  clear hl0 HB2 hL hk HB3 HB1
  go_wp2_with fail
  refine (cutSet_bad (HE.out.below HB.out) (by decide) _ cls bk bp (decide_eq_false (by omega))).mono ?_
  rintro e w3 ⟨rfl, hb⟩
  unfold ev errV
  have HL3 := Lib.hid (HL.out.below hb)
  have HB3 := Lib.hid (bbase HB.out hb)
  clear hb HL HB
  go_wp2_with fail
  refine (lad_fx HL3.out bp (decide_eq_true (by omega))).mono ?_
  rintro e w4 ⟨rfl, hL, hk⟩
  have hB3 : Below w.heap.size w w4 := HB3.out.trans (hk.below HB3.out.size (fun k hk' hs => by omega))
  have HL4 := Lib.hid hL
  have HB4 := Lib.hid hB3
  clear hL hk hB3 HL3 HB3
  go_wp2_with fail
  refine (is_ev (HE.out.below HB4.out) (k := 2) (by decide) 103).mono ?_
  rintro e w5 ⟨rfl, hb⟩
  have HL5 := Lib.hid (HL4.out.below hb)
  have HB5 := Lib.hid (bbase HB4.out hb)
  clear hb HL4 HB4
  go_wp2_with fail
  refine (lad_get HL5.out cls bk Wc.out Wb.out).mono ?_
  rintro e w6 ⟨rfl, hb⟩
  have HL6 := Lib.hid (HL5.out.below hb)
  have HB6 := Lib.hid (bbase HB5.out hb)
  clear hb HL5 HB5
  rw [show (mget (mput [] (2, 3) 77) (cls, bk)).getD 0 = (0 : Int) by rw [mget_mput_other _ _ (show (cls, bk) ≠ ((2 : Int), (3 : Int)) from fun e => absurd (show cls = 2 ∧ bk = 3 by simpa using e) (by omega))]; rfl]
  go_wp2_with fail
  go_ret
  exact ⟨rfl, HB6.out⟩

set_option maxHeartbeats 2000000 in
set_option maxRecDepth 100000 in
theorem bounds_g2_1 {p : Nat → Addr} {w : World} (hE : Errs (List.range 21) w.heap.size p w) (cls bk bp : Int) (wc : (Lit.int .i64 cls).wf = true) (wb : (Lit.int .i64 bk).wf = true) (g0 : 0 ≤ bp) (g1 : bp ≤ 10000) (i0 : 1 ≤ cls) (i1 : 6 < cls) :
    Calls Tryd.prog 6 #[.int .i64 cls, .int .i64 bk, .int .i64 bp] w fun e w' => e = .returned (.bool true) ∧ Below w.heap.size w w' := by
  have HE := Lib.hid hE; clear hE
  have Wc := Lib.hid wc
  have Wb := Lib.hid wb
  clear wc wb
  have b0 : decide (0 ≤ bp) = true := decide_eq_true g0
  have b1 : decide (bp ≤ 10000) = true := decide_eq_true g1
  have d0 : decide (1 ≤ cls) = true := decide_eq_true i0
  have d1 : decide (cls ≤ 6) = false := decide_eq_false (by omega)
  go_enter Tryd.func6, Tryd.ntmps6
  go_wp2_with fail
  refine (first12_calls HE.out (by decide)).mono ?_
  rintro e w1 ⟨rfl, HB1⟩
  have hs1 := HB1.size
  go_wp2_with fail
  have hl0 := lad_new w.heap.size w1
  have HB2 : Below w.heap.size w (w1.alloc (Obj.cells #[.map none, .int .i64 0] 39)) := by (repeat (first | exact Below.refl _ _ | assumption | refine Below.drew ?_ | refine below_many ?_ _ | refine Below.alloc ?_ (by first | (simp; done) | (simp; omega) | omega) _ | refine Below.setCell ?_ (by first | (simp; done) | (simp; omega) | omega) _))
  refine (lad_set hl0 HB2.size 2 3 77 (by decide)).mono ?_
  rintro e w2 ⟨rfl, hL, hk⟩
  have HB3 : Below w.heap.size w w2 := HB2.trans (hk.below HB2.size (fun k hk' hs => by omega))
  generalize w1.heap.size = lb at *
  have HL := Lib.hid hL
  have HB := Lib.hid HB3
  clear hl0 HB2 hL hk HB3 HB1
  go_wp2_with fail
  refine (cutSet_bad (HE.out.below HB.out) (by decide) _ cls bk bp (decide_eq_false (by omega))).mono ?_
  rintro e w3 ⟨rfl, hb⟩
  unfold ev errV
  have HL3 := Lib.hid (HL.out.below hb)
  have HB3 := Lib.hid (bbase HB.out hb)
  clear hb HL HB
  go_wp2_with fail
  refine (lad_fx HL3.out bp (decide_eq_true (by omega))).mono ?_
  rintro e w4 ⟨rfl, hL, hk⟩
  have hB3 : Below w.heap.size w w4 := HB3.out.trans (hk.below HB3.out.size (fun k hk' hs => by omega))
  have HL4 := Lib.hid hL
  have HB4 := Lib.hid hB3
  clear hL hk hB3 HL3 HB3
  go_wp2_with fail
  refine (is_ev (HE.out.below HB4.out) (k := 2) (by decide) 103).mono ?_
  rintro e w5 ⟨rfl, hb⟩
  have HL5 := Lib.hid (HL4.out.below hb)
  have HB5 := Lib.hid (bbase HB4.out hb)
  clear hb HL4 HB4
  go_wp2_with fail
  refine (lad_get HL5.out cls bk Wc.out Wb.out).mono ?_
  rintro e w6 ⟨rfl, hb⟩
  have HL6 := Lib.hid (HL5.out.below hb)
  have HB6 := Lib.hid (bbase HB5.out hb)
  clear hb HL5 HB5
  rw [show (mget (mput [] (2, 3) 77) (cls, bk)).getD 0 = (0 : Int) by rw [mget_mput_other _ _ (show (cls, bk) ≠ ((2 : Int), (3 : Int)) from fun e => absurd (show cls = 2 ∧ bk = 3 by simpa using e) (by omega))]; rfl]
  go_wp2_with fail
  go_ret
  exact ⟨rfl, HB6.out⟩

set_option maxHeartbeats 2000000 in
set_option maxRecDepth 100000 in
theorem bounds_g2_2 {p : Nat → Addr} {w : World} (hE : Errs (List.range 21) w.heap.size p w) (cls bk bp : Int) (wc : (Lit.int .i64 cls).wf = true) (wb : (Lit.int .i64 bk).wf = true) (g0 : 0 ≤ bp) (g1 : bp ≤ 10000) (i0 : 1 ≤ cls) (i1 : cls ≤ 6) (i2 : bk < 0) :
    Calls Tryd.prog 6 #[.int .i64 cls, .int .i64 bk, .int .i64 bp] w fun e w' => e = .returned (.bool true) ∧ Below w.heap.size w w' := by
  have HE := Lib.hid hE; clear hE
  have Wc := Lib.hid wc
  have Wb := Lib.hid wb
  clear wc wb
  have b0 : decide (0 ≤ bp) = true := decide_eq_true g0
  have b1 : decide (bp ≤ 10000) = true := decide_eq_true g1
  have d0 : decide (1 ≤ cls) = true := decide_eq_true i0
  have d1 : decide (cls ≤ 6) = true := decide_eq_true i1
  have d2 : decide (0 ≤ bk) = false := decide_eq_false (by omega)
  go_enter Tryd.func6, Tryd.ntmps6
  go_wp2_with fail
  refine (first12_calls HE.out (by decide)).mono ?_
  rintro e w1 ⟨rfl, HB1⟩
  have hs1 := HB1.size
  go_wp2_with fail
  have hl0 := lad_new w.heap.size w1
  have HB2 : Below w.heap.size w (w1.alloc (Obj.cells #[.map none, .int .i64 0] 39)) := by (repeat (first | exact Below.refl _ _ | assumption | refine Below.drew ?_ | refine below_many ?_ _ | refine Below.alloc ?_ (by first | (simp; done) | (simp; omega) | omega) _ | refine Below.setCell ?_ (by first | (simp; done) | (simp; omega) | omega) _))
  refine (lad_set hl0 HB2.size 2 3 77 (by decide)).mono ?_
  rintro e w2 ⟨rfl, hL, hk⟩
  have HB3 : Below w.heap.size w w2 := HB2.trans (hk.below HB2.size (fun k hk' hs => by omega))
  generalize w1.heap.size = lb at *
  have HL := Lib.hid hL
  have HB := Lib.hid HB3
  clear hl0 HB2 hL hk HB3 HB1
  go_wp2_with fail
  refine (cutSet_bad (HE.out.below HB.out) (by decide) _ cls bk bp (decide_eq_false (by omega))).mono ?_
  rintro e w3 ⟨rfl, hb⟩
  unfold ev errV
  have HL3 := Lib.hid (HL.out.below hb)
  have HB3 := Lib.hid (bbase HB.out hb)
  clear hb HL HB
  go_wp2_with fail
  refine (lad_fx HL3.out bp (decide_eq_true (by omega))).mono ?_
  rintro e w4 ⟨rfl, hL, hk⟩
  have hB3 : Below w.heap.size w w4 := HB3.out.trans (hk.below HB3.out.size (fun k hk' hs => by omega))
  have HL4 := Lib.hid hL
  have HB4 := Lib.hid hB3
  clear hL hk hB3 HL3 HB3
  go_wp2_with fail
  refine (is_ev (HE.out.below HB4.out) (k := 2) (by decide) 103).mono ?_
  rintro e w5 ⟨rfl, hb⟩
  have HL5 := Lib.hid (HL4.out.below hb)
  have HB5 := Lib.hid (bbase HB4.out hb)
  clear hb HL4 HB4
  go_wp2_with fail
  refine (lad_get HL5.out cls bk Wc.out Wb.out).mono ?_
  rintro e w6 ⟨rfl, hb⟩
  have HL6 := Lib.hid (HL5.out.below hb)
  have HB6 := Lib.hid (bbase HB5.out hb)
  clear hb HL5 HB5
  rw [show (mget (mput [] (2, 3) 77) (cls, bk)).getD 0 = (0 : Int) by rw [mget_mput_other _ _ (show (cls, bk) ≠ ((2 : Int), (3 : Int)) from fun e => absurd (show cls = 2 ∧ bk = 3 by simpa using e) (by omega))]; rfl]
  go_wp2_with fail
  go_ret
  exact ⟨rfl, HB6.out⟩

set_option maxHeartbeats 2000000 in
set_option maxRecDepth 100000 in
theorem bounds_g2_3 {p : Nat → Addr} {w : World} (hE : Errs (List.range 21) w.heap.size p w) (cls bk bp : Int) (wc : (Lit.int .i64 cls).wf = true) (wb : (Lit.int .i64 bk).wf = true) (g0 : 0 ≤ bp) (g1 : bp ≤ 10000) (i0 : 1 ≤ cls) (i1 : cls ≤ 6) (i2 : 0 ≤ bk) (i3 : 6 ≤ bk) :
    Calls Tryd.prog 6 #[.int .i64 cls, .int .i64 bk, .int .i64 bp] w fun e w' => e = .returned (.bool true) ∧ Below w.heap.size w w' := by
  have HE := Lib.hid hE; clear hE
  have Wc := Lib.hid wc
  have Wb := Lib.hid wb
  clear wc wb
  have b0 : decide (0 ≤ bp) = true := decide_eq_true g0
  have b1 : decide (bp ≤ 10000) = true := decide_eq_true g1
  have d0 : decide (1 ≤ cls) = true := decide_eq_true i0
  have d1 : decide (cls ≤ 6) = true := decide_eq_true i1
  have d2 : decide (0 ≤ bk) = true := decide_eq_true i2
  have d3 : decide (bk < 6) = false := decide_eq_false (by omega)
  go_enter Tryd.func6, Tryd.ntmps6
  go_wp2_with fail
  refine (first12_calls HE.out (by decide)).mono ?_
  rintro e w1 ⟨rfl, HB1⟩
  have hs1 := HB1.size
  go_wp2_with fail
  have hl0 := lad_new w.heap.size w1
  have HB2 : Below w.heap.size w (w1.alloc (Obj.cells #[.map none, .int .i64 0] 39)) := by (repeat (first | exact Below.refl _ _ | assumption | refine Below.drew ?_ | refine below_many ?_ _ | refine Below.alloc ?_ (by first | (simp; done) | (simp; omega) | omega) _ | refine Below.setCell ?_ (by first | (simp; done) | (simp; omega) | omega) _))
  refine (lad_set hl0 HB2.size 2 3 77 (by decide)).mono ?_
  rintro e w2 ⟨rfl, hL, hk⟩
  have HB3 : Below w.heap.size w w2 := HB2.trans (hk.below HB2.size (fun k hk' hs => by omega))
  generalize w1.heap.size = lb at *
  have HL := Lib.hid hL
  have HB := Lib.hid HB3
  clear hl0 HB2 hL hk HB3 HB1
  go_wp2_with fail
  refine (cutSet_bad (HE.out.below HB.out) (by decide) _ cls bk bp (decide_eq_false (by omega))).mono ?_
  rintro e w3 ⟨rfl, hb⟩
  unfold ev errV
  have HL3 := Lib.hid (HL.out.below hb)
  have HB3 := Lib.hid (bbase HB.out hb)
  clear hb HL HB
  go_wp2_with fail
  refine (lad_fx HL3.out bp (decide_eq_true (by omega))).mono ?_
  rintro e w4 ⟨rfl, hL, hk⟩
  have hB3 : Below w.heap.size w w4 := HB3.out.trans (hk.below HB3.out.size (fun k hk' hs => by omega))
  have HL4 := Lib.hid hL
  have HB4 := Lib.hid hB3
  clear hL hk hB3 HL3 HB3
  go_wp2_with fail
  refine (is_ev (HE.out.below HB4.out) (k := 2) (by decide) 103).mono ?_
  rintro e w5 ⟨rfl, hb⟩
  have HL5 := Lib.hid (HL4.out.below hb)
  have HB5 := Lib.hid (bbase HB4.out hb)
  clear hb HL4 HB4
  go_wp2_with fail
  refine (lad_get HL5.out cls bk Wc.out Wb.out).mono ?_
  rintro e w6 ⟨rfl, hb⟩
  have HL6 := Lib.hid (HL5.out.below hb)
  have HB6 := Lib.hid (bbase HB5.out hb)
  clear hb HL5 HB5
  rw [show (mget (mput [] (2, 3) 77) (cls, bk)).getD 0 = (0 : Int) by rw [mget_mput_other _ _ (show (cls, bk) ≠ ((2 : Int), (3 : Int)) from fun e => absurd (show cls = 2 ∧ bk = 3 by simpa using e) (by omega))]; rfl]
  go_wp2_with fail
  go_ret
  exact ⟨rfl, HB6.out⟩

set_option maxHeartbeats 2000000 in
set_option maxRecDepth 100000 in
theorem bounds_g3_0lo {p : Nat → Addr} {w : World} (hE : Errs (List.range 21) w.heap.size p w) (cls bk bp : Int) (wc : (Lit.int .i64 cls).wf = true) (wb : (Lit.int .i64 bk).wf = true) (g0 : bp < 0) (i0 : cls < 1) :
    Calls Tryd.prog 6 #[.int .i64 cls, .int .i64 bk, .int .i64 bp] w fun e w' => e = .returned (.bool true) ∧ Below w.heap.size w w' := by
  have HE := Lib.hid hE; clear hE
  have Wc := Lib.hid wc
  have Wb := Lib.hid wb
  clear wc wb
  have b0 : decide (0 ≤ bp) = false := decide_eq_false (by omega)
  have d0 : decide (1 ≤ cls) = false := decide_eq_false (by omega)
  go_enter Tryd.func6, Tryd.ntmps6
  go_wp2_with fail
  refine (first12_calls HE.out (by decide)).mono ?_
  rintro e w1 ⟨rfl, HB1⟩
  have hs1 := HB1.size
  go_wp2_with fail
  have hl0 := lad_new w.heap.size w1
  have HB2 : Below w.heap.size w (w1.alloc (Obj.cells #[.map none, .int .i64 0] 39)) := by (repeat (first | exact Below.refl _ _ | assumption | refine Below.drew ?_ | refine below_many ?_ _ | refine Below.alloc ?_ (by first | (simp; done) | (simp; omega) | omega) _ | refine Below.setCell ?_ (by first | (simp; done) | (simp; omega) | omega) _))
  refine (lad_set hl0 HB2.size 2 3 77 (by decide)).mono ?_
  rintro e w2 ⟨rfl, hL, hk⟩
  have HB3 : Below w.heap.size w w2 := HB2.trans (hk.below HB2.size (fun k hk' hs => by omega))
  generalize w1.heap.size = lb at *
  have HL := Lib.hid hL
  have HB := Lib.hid HB3
  clear hl0 HB2 hL hk HB3 HB1
  go_wp2_with fail
  refine (cutSet_bad (HE.out.below HB.out) (by decide) _ cls bk bp (decide_eq_false (by omega))).mono ?_
  rintro e w3 ⟨rfl, hb⟩
  unfold ev errV
  have HL3 := Lib.hid (HL.out.below hb)
  have HB3 := Lib.hid (bbase HB.out hb)
  clear hb HL HB
  go_wp2_with fail
  refine (setFx_bad (HE.out.below HB3.out) (by decide) _ bp (decide_eq_false (by omega))).mono ?_
  rintro e w4 ⟨rfl, rfl⟩
  unfold ev errV
  have HL4 := HL3
  have HB4 := HB3
  clear HL3 HB3
  go_wp2_with fail
  refine (is_ev (HE.out.below HB4.out) (k := 2) (by decide) 103).mono ?_
  rintro e w5 ⟨rfl, hb⟩
  have HL5 := Lib.hid (HL4.out.below hb)
  have HB5 := Lib.hid (bbase HB4.out hb)
  clear hb HL4 HB4
  go_wp2_with fail
  refine (is_ev (HE.out.below HB5.out) (k := 2) (by decide) 103).mono ?_
  rintro e w6 ⟨rfl, hb⟩
  have HL6 := Lib.hid (HL5.out.below hb)
  have HB6 := Lib.hid (bbase HB5.out hb)
  clear hb HL5 HB5
  go_wp2_with fail
  refine (lad_get HL6.out cls bk Wc.out Wb.out).mono ?_
  rintro e w7 ⟨rfl, hb⟩
  have HL7 := Lib.hid (HL6.out.below hb)
  have HB7 := Lib.hid (bbase HB6.out hb)
  clear hb HL6 HB6
  rw [show (mget (mput [] (2, 3) 77) (cls, bk)).getD 0 = (0 : Int) by rw [mget_mput_other _ _ (show (cls, bk) ≠ ((2 : Int), (3 : Int)) from fun e => absurd (show cls = 2 ∧ bk = 3 by simpa using e) (by omega))]; rfl]
  go_wp2_with fail
  refine (lad_fx_get HL7.out).mono ?_
  rintro e w8 ⟨rfl, rfl⟩
  go_wp2_with fail
  go_ret
  exact ⟨rfl, HB7.out⟩

set_option maxHeartbeats 2000000 in
set_option maxRecDepth 100000 in
theorem bounds_g3_0hi {p : Nat → Addr} {w : World} (hE : Errs (List.range 21) w.heap.size p w) (cls bk bp : Int) (wc : (Lit.int .i64 cls).wf = true) (wb : (Lit.int .i64 bk).wf = true) (g1 : 10000 < bp) (i0 : cls < 1) :
    Calls Tryd.prog 6 #[.int .i64 cls, .int .i64 bk, .int .i64 bp] w fun e w' => e = .returned (.bool true) ∧ Below w.heap.size w w' := by
  have HE := Lib.hid hE; clear hE
  have Wc := Lib.hid wc
  have Wb := Lib.hid wb
  clear wc wb
  have b0 : decide (0 ≤ bp) = true := decide_eq_true (by omega)
  have b1 : decide (bp ≤ 10000) = false := decide_eq_false (by omega)
  have d0 : decide (1 ≤ cls) = false := decide_eq_false (by omega)
  go_enter Tryd.func6, Tryd.ntmps6
  go_wp2_with fail
  refine (first12_calls HE.out (by decide)).mono ?_
  rintro e w1 ⟨rfl, HB1⟩
  have hs1 := HB1.size
  go_wp2_with fail
  have hl0 := lad_new w.heap.size w1
  have HB2 : Below w.heap.size w (w1.alloc (Obj.cells #[.map none, .int .i64 0] 39)) := by (repeat (first | exact Below.refl _ _ | assumption | refine Below.drew ?_ | refine below_many ?_ _ | refine Below.alloc ?_ (by first | (simp; done) | (simp; omega) | omega) _ | refine Below.setCell ?_ (by first | (simp; done) | (simp; omega) | omega) _))
  refine (lad_set hl0 HB2.size 2 3 77 (by decide)).mono ?_
  rintro e w2 ⟨rfl, hL, hk⟩
  have HB3 : Below w.heap.size w w2 := HB2.trans (hk.below HB2.size (fun k hk' hs => by omega))
  generalize w1.heap.size = lb at *
  have HL := Lib.hid hL
  have HB := Lib.hid HB3
  clear hl0 HB2 hL hk HB3 HB1
  go_wp2_with fail
  refine (cutSet_bad (HE.out.below HB.out) (by decide) _ cls bk bp (decide_eq_false (by omega))).mono ?_
  rintro e w3 ⟨rfl, hb⟩
  unfold ev errV
  have HL3 := Lib.hid (HL.out.below hb)
  have HB3 := Lib.hid (bbase HB.out hb)
  clear hb HL HB
  go_wp2_with fail
  refine (setFx_bad (HE.out.below HB3.out) (by decide) _ bp (decide_eq_false (by omega))).mono ?_
  rintro e w4 ⟨rfl, rfl⟩
  unfold ev errV
  have HL4 := HL3
  have HB4 := HB3
  clear HL3 HB3
  go_wp2_with fail
  refine (is_ev (HE.out.below HB4.out) (k := 2) (by decide) 103).mono ?_
  rintro e w5 ⟨rfl, hb⟩
  have HL5 := Lib.hid (HL4.out.below hb)
  have HB5 := Lib.hid (bbase HB4.out hb)
  clear hb HL4 HB4
  go_wp2_with fail
  refine (is_ev (HE.out.below HB5.out) (k := 2) (by decide) 103).mono ?_
  rintro e w6 ⟨rfl, hb⟩
  have HL6 := Lib.hid (HL5.out.below hb)
  have HB6 := Lib.hid (bbase HB5.out hb)
  clear hb HL5 HB5
  go_wp2_with fail
  refine (lad_get HL6.out cls bk Wc.out Wb.out).mono ?_
  rintro e w7 ⟨rfl, hb⟩
  have HL7 := Lib.hid (HL6.out.below hb)
  have HB7 := Lib.hid (bbase HB6.out hb)
  clear hb HL6 HB6
  rw [show (mget (mput [] (2, 3) 77) (cls, bk)).getD 0 = (0 : Int) by rw [mget_mput_other _ _ (show (cls, bk) ≠ ((2 : Int), (3 : Int)) from fun e => absurd (show cls = 2 ∧ bk = 3 by simpa using e) (by omega))]; rfl]
  go_wp2_with fail
  refine (lad_fx_get HL7.out).mono ?_
  rintro e w8 ⟨rfl, rfl⟩
  go_wp2_with fail
  go_ret
  exact ⟨rfl, HB7.out⟩

set_option maxHeartbeats 2000000 in
set_option maxRecDepth 100000 in
theorem bounds_g3_1lo {p : Nat → Addr} {w : World} (hE : Errs (List.range 21) w.heap.size p w) (cls bk bp : Int) (wc : (Lit.int .i64 cls).wf = true) (wb : (Lit.int .i64 bk).wf = true) (g0 : bp < 0) (i0 : 1 ≤ cls) (i1 : 6 < cls) :
    Calls Tryd.prog 6 #[.int .i64 cls, .int .i64 bk, .int .i64 bp] w fun e w' => e = .returned (.bool true) ∧ Below w.heap.size w w' := by
  have HE := Lib.hid hE; clear hE
  have Wc := Lib.hid wc
  have Wb := Lib.hid wb
  clear wc wb
  have b0 : decide (0 ≤ bp) = false := decide_eq_false (by omega)
  have d0 : decide (1 ≤ cls) = true := decide_eq_true i0
  have d1 : decide (cls ≤ 6) = false := decide_eq_false (by omega)
  go_enter Tryd.func6, Tryd.ntmps6
  go_wp2_with fail
  refine (first12_calls HE.out (by decide)).mono ?_
  rintro e w1 ⟨rfl, HB1⟩
  have hs1 := HB1.size
  go_wp2_with fail
  have hl0 := lad_new w.heap.size w1
  have HB2 : Below w.heap.size w (w1.alloc (Obj.cells #[.map none, .int .i64 0] 39)) := by (repeat (first | exact Below.refl _ _ | assumption | refine Below.drew ?_ | refine below_many ?_ _ | refine Below.alloc ?_ (by first | (simp; done) | (simp; omega) | omega) _ | refine Below.setCell ?_ (by first | (simp; done) | (simp; omega) | omega) _))
  refine (lad_set hl0 HB2.size 2 3 77 (by decide)).mono ?_
  rintro e w2 ⟨rfl, hL, hk⟩
  have HB3 : Below w.heap.size w w2 := HB2.trans (hk.below HB2.size (fun k hk' hs => by omega))
  generalize w1.heap.size = lb at *
  have HL := Lib.hid hL
  have HB := Lib.hid HB3
  clear hl0 HB2 hL hk HB3 HB1
  go_wp2_with fail
  refine (cutSet_bad (HE.out.below HB.out) (by decide) _ cls bk bp (decide_eq_false (by omega))).mono ?_
  rintro e w3 ⟨rfl, hb⟩
  unfold ev errV
  have HL3 := Lib.hid (HL.out.below hb)
  have HB3 := Lib.hid (bbase HB.out hb)
  clear hb HL HB
  go_wp2_with fail
  refine (setFx_bad (HE.out.below HB3.out) (by decide) _ bp (decide_eq_false (by omega))).mono ?_
  rintro e w4 ⟨rfl, rfl⟩
  unfold ev errV
  have HL4 := HL3
  have HB4 := HB3
  clear HL3 HB3
  go_wp2_with fail
  refine (is_ev (HE.out.below HB4.out) (k := 2) (by decide) 103).mono ?_
  rintro e w5 ⟨rfl, hb⟩
  have HL5 := Lib.hid (HL4.out.below hb)
  have HB5 := Lib.hid (bbase HB4.out hb)
  clear hb HL4 HB4
  go_wp2_with fail
  refine (is_ev (HE.out.below HB5.out) (k := 2) (by decide) 103).mono ?_
  rintro e w6 ⟨rfl, hb⟩
  have HL6 := Lib.hid (HL5.out.below hb)
  have HB6 := Lib.hid (bbase HB5.out hb)
  clear hb HL5 HB5
  go_wp2_with fail
  refine (lad_get HL6.out cls bk Wc.out Wb.out).mono ?_
  rintro e w7 ⟨rfl, hb⟩
  have HL7 := Lib.hid (HL6.out.below hb)
  have HB7 := Lib.hid (bbase HB6.out hb)
  clear hb HL6 HB6
  rw [show (mget (mput [] (2, 3) 77) (cls, bk)).getD 0 = (0 : Int) by rw [mget_mput_other _ _ (show (cls, bk) ≠ ((2 : Int), (3 : Int)) from fun e => absurd (show cls = 2 ∧ bk = 3 by simpa using e) (by omega))]; rfl]
  go_wp2_with fail
  refine (lad_fx_get HL7.out).mono ?_
  rintro e w8 ⟨rfl, rfl⟩
  go_wp2_with fail
  go_ret
  exact ⟨rfl, HB7.out⟩

set_option maxHeartbeats 2000000 in
set_option maxRecDepth 100000 in
theorem bounds_g3_1hi {p : Nat → Addr} {w : World} (hE : Errs (List.range 21) w.heap.size p w) (cls bk bp : Int) (wc : (Lit.int .i64 cls).wf = true) (wb : (Lit.int .i64 bk).wf = true) (g1 : 10000 < bp) (i0 : 1 ≤ cls) (i1 : 6 < cls) :
    Calls Tryd.prog 6 #[.int .i64 cls, .int .i64 bk, .int .i64 bp] w fun e w' => e = .returned (.bool true) ∧ Below w.heap.size w w' := by
  have HE := Lib.hid hE; clear hE
  have Wc := Lib.hid wc
  have Wb := Lib.hid wb
  clear wc wb
  have b0 : decide (0 ≤ bp) = true := decide_eq_true (by omega)
  have b1 : decide (bp ≤ 10000) = false := decide_eq_false (by omega)
  have d0 : decide (1 ≤ cls) = true := decide_eq_true i0
  have d1 : decide (cls ≤ 6) = false := decide_eq_false (by omega)
  go_enter Tryd.func6, Tryd.ntmps6
  go_wp2_with fail
  refine (first12_calls HE.out (by decide)).mono ?_
  rintro e w1 ⟨rfl, HB1⟩
  have hs1 := HB1.size
  go_wp2_with fail
  have hl0 := lad_new w.heap.size w1
  have HB2 : Below w.heap.size w (w1.alloc (Obj.cells #[.map none, .int .i64 0] 39)) := by (repeat (first | exact Below.refl _ _ | assumption | refine Below.drew ?_ | refine below_many ?_ _ | refine Below.alloc ?_ (by first | (simp; done) | (simp; omega) | omega) _ | refine Below.setCell ?_ (by first | (simp; done) | (simp; omega) | omega) _))
  refine (lad_set hl0 HB2.size 2 3 77 (by decide)).mono ?_
  rintro e w2 ⟨rfl, hL, hk⟩
  have HB3 : Below w.heap.size w w2 := HB2.trans (hk.below HB2.size (fun k hk' hs => by omega))
  generalize w1.heap.size = lb at *
  have HL := Lib.hid hL
  have HB := Lib.hid HB3
  clear hl0 HB2 hL hk HB3 HB1
  go_wp2_with fail
  refine (cutSet_bad (HE.out.below HB.out) (by decide) _ cls bk bp (decide_eq_false (by omega))).mono ?_
  rintro e w3 ⟨rfl, hb⟩
  unfold ev errV
  have HL3 := Lib.hid (HL.out.below hb)
  have HB3 := Lib.hid (bbase HB.out hb)
  clear hb HL HB
  go_wp2_with fail
  refine (setFx_bad (HE.out.below HB3.out) (by decide) _ bp (decide_eq_false (by omega))).mono ?_
  rintro e w4 ⟨rfl, rfl⟩
  unfold ev errV
  have HL4 := HL3
  have HB4 := HB3
  clear HL3 HB3
  go_wp2_with fail
  refine (is_ev (HE.out.below HB4.out) (k := 2) (by decide) 103).mono ?_
  rintro e w5 ⟨rfl, hb⟩
  have HL5 := Lib.hid (HL4.out.below hb)
  have HB5 := Lib.hid (bbase HB4.out hb)
  clear hb HL4 HB4
  go_wp2_with fail
  refine (is_ev (HE.out.below HB5.out) (k := 2) (by decide) 103).mono ?_
  rintro e w6 ⟨rfl, hb⟩
  have HL6 := Lib.hid (HL5.out.below hb)
  have HB6 := Lib.hid (bbase HB5.out hb)
  clear hb HL5 HB5
  go_wp2_with fail
  refine (lad_get HL6.out cls bk Wc.out Wb.out).mono ?_
  rintro e w7 ⟨rfl, hb⟩
  have HL7 := Lib.hid (HL6.out.below hb)
  have HB7 := Lib.hid (bbase HB6.out hb)
  clear hb HL6 HB6
  rw [show (mget (mput [] (2, 3) 77) (cls, bk)).getD 0 = (0 : Int) by rw [mget_mput_other _ _ (show (cls, bk) ≠ ((2 : Int), (3 : Int)) from fun e => absurd (show cls = 2 ∧ bk = 3 by simpa using e) (by omega))]; rfl]
  go_wp2_with fail
  refine (lad_fx_get HL7.out).mono ?_
  rintro e w8 ⟨rfl, rfl⟩
  go_wp2_with fail
  go_ret
  exact ⟨rfl, HB7.out⟩

set_option maxHeartbeats 2000000 in
set_option maxRecDepth 100000 in
theorem bounds_g3_2lo {p : Nat → Addr} {w : World} (hE : Errs (List.range 21) w.heap.size p w) (cls bk bp : Int) (wc : (Lit.int .i64 cls).wf = true) (wb : (Lit.int .i64 bk).wf = true) (g0 : bp < 0) (i0 : 1 ≤ cls) (i1 : cls ≤ 6) (i2 : bk < 0) :
    Calls Tryd.prog 6 #[.int .i64 cls, .int .i64 bk, .int .i64 bp] w fun e w' => e = .returned (.bool true) ∧ Below w.heap.size w w' := by
  have HE := Lib.hid hE; clear hE
  have Wc := Lib.hid wc
  have Wb := Lib.hid wb
  clear wc wb
  have b0 : decide (0 ≤ bp) = false := decide_eq_false (by omega)
  have d0 : decide (1 ≤ cls) = true := decide_eq_true i0
  have d1 : decide (cls ≤ 6) = true := decide_eq_true i1
  have d2 : decide (0 ≤ bk) = false := decide_eq_false (by omega)
  go_enter Tryd.func6, Tryd.ntmps6
  go_wp2_with fail
  refine (first12_calls HE.out (by decide)).mono ?_
  rintro e w1 ⟨rfl, HB1⟩
  have hs1 := HB1.size
  go_wp2_with fail
  have hl0 := lad_new w.heap.size w1
  have HB2 : Below w.heap.size w (w1.alloc (Obj.cells #[.map none, .int .i64 0] 39)) := by (repeat (first | exact Below.refl _ _ | assumption | refine Below.drew ?_ | refine below_many ?_ _ | refine Below.alloc ?_ (by first | (simp; done) | (simp; omega) | omega) _ | refine Below.setCell ?_ (by first | (simp; done) | (simp; omega) | omega) _))
  refine (lad_set hl0 HB2.size 2 3 77 (by decide)).mono ?_
  rintro e w2 ⟨rfl, hL, hk⟩
  have HB3 : Below w.heap.size w w2 := HB2.trans (hk.below HB2.size (fun k hk' hs => by omega))
  generalize w1.heap.size = lb at *
  have HL := Lib.hid hL
  have HB := Lib.hid HB3
  clear hl0 HB2 hL hk HB3 HB1
  go_wp2_with fail
  refine (cutSet_bad (HE.out.below HB.out) (by decide) _ cls bk bp (decide_eq_false (by omega))).mono ?_
  rintro e w3 ⟨rfl, hb⟩
  unfold ev errV
  have HL3 := Lib.hid (HL.out.below hb)
  have HB3 := Lib.hid (bbase HB.out hb)
  clear hb HL HB
  go_wp2_with fail
  refine (setFx_bad (HE.out.below HB3.out) (by decide) _ bp (decide_eq_false (by omega))).mono ?_
  rintro e w4 ⟨rfl, rfl⟩
  unfold ev errV
  have HL4 := HL3
  have HB4 := HB3
  clear HL3 HB3
  go_wp2_with fail
  refine (is_ev (HE.out.below HB4.out) (k := 2) (by decide) 103).mono ?_
  rintro e w5 ⟨rfl, hb⟩
  have HL5 := Lib.hid (HL4.out.below hb)
  have HB5 := Lib.hid (bbase HB4.out hb)
  clear hb HL4 HB4
  go_wp2_with fail
  refine (is_ev (HE.out.below HB5.out) (k := 2) (by decide) 103).mono ?_
  rintro e w6 ⟨rfl, hb⟩
  have HL6 := Lib.hid (HL5.out.below hb)
  have HB6 := Lib.hid (bbase HB5.out hb)
  clear hb HL5 HB5
  go_wp2_with fail
  refine (lad_get HL6.out cls bk Wc.out Wb.out).mono ?_
  rintro e w7 ⟨rfl, hb⟩
  have HL7 := Lib.hid (HL6.out.below hb)
  have HB7 := Lib.hid (bbase HB6.out hb)
  clear hb HL6 HB6
  rw [show (mget (mput [] (2, 3) 77) (cls, bk)).getD 0 = (0 : Int) by rw [mget_mput_other _ _ (show (cls, bk) ≠ ((2 : Int), (3 : Int)) from fun e => absurd (show cls = 2 ∧ bk = 3 by simpa using e) (by omega))]; rfl]
  go_wp2_with fail
  refine (lad_fx_get HL7.out).mono ?_
  rintro e w8 ⟨rfl, rfl⟩
  go_wp2_with fail
  go_ret
  exact ⟨rfl, HB7.out⟩

set_option maxHeartbeats 2000000 in
set_option maxRecDepth 100000 in
theorem bounds_g3_2hi {p : Nat → Addr} {w : World} (hE : Errs (List.range 21) w.heap.size p w) (cls bk bp : Int) (wc : (Lit.int .i64 cls).wf = true) (wb : (Lit.int .i64 bk).wf = true) (g1 : 10000 < bp) (i0 : 1 ≤ cls) (i1 : cls ≤ 6) (i2 : bk < 0) :
    Calls Tryd.prog 6 #[.int .i64 cls, .int .i64 bk, .int .i64 bp] w fun e w' => e = .returned (.bool true) ∧ Below w.heap.size w w' := by
  have HE := Lib.hid hE; clear hE
  have Wc := Lib.hid wc
  have Wb := Lib.hid wb
  clear wc wb
  have b0 : decide (0 ≤ bp) = true := decide_eq_true (by omega)
  have b1 : decide (bp ≤ 10000) = false := decide_eq_false (by omega)
  have d0 : decide (1 ≤ cls) = true := decide_eq_true i0
  have d1 : decide (cls ≤ 6) = true := decide_eq_true i1
  have d2 : decide (0 ≤ bk) = false := decide_eq_false (by omega)
  go_enter Tryd.func6, Tryd.ntmps6
  go_wp2_with fail
  refine (first12_calls HE.out (by decide)).mono ?_
  rintro e w1 ⟨rfl, HB1⟩
  have hs1 := HB1.size
  go_wp2_with fail
  have hl0 := lad_new w.heap.size w1
  have HB2 : Below w.heap.size w (w1.alloc (Obj.cells #[.map none, .int .i64 0] 39)) := by (repeat (first | exact Below.refl _ _ | assumption | refine Below.drew ?_ | refine below_many ?_ _ | refine Below.alloc ?_ (by first | (simp; done) | (simp; omega) | omega) _ | refine Below.setCell ?_ (by first | (simp; done) | (simp; omega) | omega) _))
  refine (lad_set hl0 HB2.size 2 3 77 (by decide)).mono ?_
  rintro e w2 ⟨rfl, hL, hk⟩
  have HB3 : Below w.heap.size w w2 := HB2.trans (hk.below HB2.size (fun k hk' hs => by omega))
  generalize w1.heap.size = lb at *
  have HL := Lib.hid hL
  have HB := Lib.hid HB3
  clear hl0 HB2 hL hk HB3 HB1
  go_wp2_with fail
  refine (cutSet_bad (HE.out.below HB.out) (by decide) _ cls bk bp (decide_eq_false (by omega))).mono ?_
  rintro e w3 ⟨rfl, hb⟩
  unfold ev errV
  have HL3 := Lib.hid (HL.out.below hb)
  have HB3 := Lib.hid (bbase HB.out hb)
  clear hb HL HB
  go_wp2_with fail
  refine (setFx_bad (HE.out.below HB3.out) (by decide) _ bp (decide_eq_false (by omega))).mono ?_
  rintro e w4 ⟨rfl, rfl⟩
  unfold ev errV
  have HL4 := HL3
  have HB4 := HB3
  clear HL3 HB3
  go_wp2_with fail
  refine (is_ev (HE.out.below HB4.out) (k := 2) (by decide) 103).mono ?_
  rintro e w5 ⟨rfl, hb⟩
  have HL5 := Lib.hid (HL4.out.below hb)
  have HB5 := Lib.hid (bbase HB4.out hb)
  clear hb HL4 HB4
  go_wp2_with fail
  refine (is_ev (HE.out.below HB5.out) (k := 2) (by decide) 103).mono ?_
  rintro e w6 ⟨rfl, hb⟩
  have HL6 := Lib.hid (HL5.out.below hb)
  have HB6 := Lib.hid (bbase HB5.out hb)
  clear hb HL5 HB5
  go_wp2_with fail
  refine (lad_get HL6.out cls bk Wc.out Wb.out).mono ?_
  rintro e w7 ⟨rfl, hb⟩
  have HL7 := Lib.hid (HL6.out.below hb)
  have HB7 := Lib.hid (bbase HB6.out hb)
  clear hb HL6 HB6
  rw [show (mget (mput [] (2, 3) 77) (cls, bk)).getD 0 = (0 : Int) by rw [mget_mput_other _ _ (show (cls, bk) ≠ ((2 : Int), (3 : Int)) from fun e => absurd (show cls = 2 ∧ bk = 3 by simpa using e) (by omega))]; rfl]
  go_wp2_with fail
  refine (lad_fx_get HL7.out).mono ?_
  rintro e w8 ⟨rfl, rfl⟩
  go_wp2_with fail
  go_ret
  exact ⟨rfl, HB7.out⟩

set_option maxHeartbeats 2000000 in
set_option maxRecDepth 100000 in
theorem bounds_g3_3lo {p : Nat → Addr} {w : World} (hE : Errs (List.range 21) w.heap.size p w) (cls bk bp : Int) (wc : (Lit.int .i64 cls).wf = true) (wb : (Lit.int .i64 bk).wf = true) (g0 : bp < 0) (i0 : 1 ≤ cls) (i1 : cls ≤ 6) (i2 : 0 ≤ bk) (i3 : 6 ≤ bk) :
    Calls Tryd.prog 6 #[.int .i64 cls, .int .i64 bk, .int .i64 bp] w fun e w' => e = .returned (.bool true) ∧ Below w.heap.size w w' := by
  have HE := Lib.hid hE; clear hE
  have Wc := Lib.hid wc
  have Wb := Lib.hid wb
  clear wc wb
  have b0 : decide (0 ≤ bp) = false := decide_eq_false (by omega)
  have d0 : decide (1 ≤ cls) = true := decide_eq_true i0
  have d1 : decide (cls ≤ 6) = true := decide_eq_true i1
  have d2 : decide (0 ≤ bk) = true := decide_eq_true i2
  have d3 : decide (bk < 6) = false := decide_eq_false (by omega)
  go_enter Tryd.func6, Tryd.ntmps6
  go_wp2_with fail
  refine (first12_calls HE.out (by decide)).mono ?_
  rintro e w1 ⟨rfl, HB1⟩
  have hs1 := HB1.size
  go_wp2_with fail
  have hl0 := lad_new w.heap.size w1
  have HB2 : Below w.heap.size w (w1.alloc (Obj.cells #[.map none, .int .i64 0] 39)) := by (repeat (first | exact Below.refl _ _ | assumption | refine Below.drew ?_ | refine below_many ?_ _ | refine Below.alloc ?_ (by first | (simp; done) | (simp; omega) | omega) _ | refine Below.setCell ?_ (by first | (simp; done) | (simp; omega) | omega) _))
  refine (lad_set hl0 HB2.size 2 3 77 (by decide)).mono ?_
  rintro e w2 ⟨rfl, hL, hk⟩
  have HB3 : Below w.heap.size w w2 := HB2.trans (hk.below HB2.size (fun k hk' hs => by omega))
  generalize w1.heap.size = lb at *
  have HL := Lib.hid hL
  have HB := Lib.hid HB3
  clear hl0 HB2 hL hk HB3 HB1
  go_wp2_with fail
  refine (cutSet_bad (HE.out.below HB.out) (by decide) _ cls bk bp (decide_eq_false (by omega))).mono ?_
  rintro e w3 ⟨rfl, hb⟩
  unfold ev errV
  have HL3 := Lib.hid (HL.out.below hb)
  have HB3 := Lib.hid (bbase HB.out hb)
  clear hb HL HB
  go_wp2_with fail
  refine (setFx_bad (HE.out.below HB3.out) (by decide) _ bp (decide_eq_false (by omega))).mono ?_
  rintro e w4 ⟨rfl, rfl⟩
  unfold ev errV
  have HL4 := HL3
  have HB4 := HB3
  clear HL3 HB3
  go_wp2_with fail
  refine (is_ev (HE.out.below HB4.out) (k := 2) (by decide) 103).mono ?_
  rintro e w5 ⟨rfl, hb⟩
  have HL5 := Lib.hid (HL4.out.below hb)
  have HB5 := Lib.hid (bbase HB4.out hb)
  clear hb HL4 HB4
  go_wp2_with fail
  refine (is_ev (HE.out.below HB5.out) (k := 2) (by decide) 103).mono ?_
  rintro e w6 ⟨rfl, hb⟩
  have HL6 := Lib.hid (HL5.out.below hb)
  have HB6 := Lib.hid (bbase HB5.out hb)
  clear hb HL5 HB5
  go_wp2_with fail
  refine (lad_get HL6.out cls bk Wc.out Wb.out).mono ?_
  rintro e w7 ⟨rfl, hb⟩
  have HL7 := Lib.hid (HL6.out.below hb)
  have HB7 := Lib.hid (bbase HB6.out hb)
  clear hb HL6 HB6
  rw [show (mget (mput [] (2, 3) 77) (cls, bk)).getD 0 = (0 : Int) by rw [mget_mput_other _ _ (show (cls, bk) ≠ ((2 : Int), (3 : Int)) from fun e => absurd (show cls = 2 ∧ bk = 3 by simpa using e) (by omega))]; rfl]
  go_wp2_with fail
  refine (lad_fx_get HL7.out).mono ?_
  rintro e w8 ⟨rfl, rfl⟩
  go_wp2_with fail
  go_ret
  exact ⟨rfl, HB7.out⟩

set_option maxHeartbeats 2000000 in
set_option maxRecDepth 100000 in
theorem bounds_g3_3hi {p : Nat → Addr} {w : World} (hE : Errs (List.range 21) w.heap.size p w) (cls bk bp : Int) (wc : (Lit.int .i64 cls).wf = true) (wb : (Lit.int .i64 bk).wf = true) (g1 : 10000 < bp) (i0 : 1 ≤ cls) (i1 : cls ≤ 6) (i2 : 0 ≤ bk) (i3 : 6 ≤ bk) :
    Calls Tryd.prog 6 #[.int .i64 cls, .int .i64 bk, .int .i64 bp] w fun e w' => e = .returned (.bool true) ∧ Below w.heap.size w w' := by
  have HE := Lib.hid hE; clear hE
  have Wc := Lib.hid wc
  have Wb := Lib.hid wb
  clear wc wb
  have b0 : decide (0 ≤ bp) = true := decide_eq_true (by omega)
  have b1 : decide (bp ≤ 10000) = false := decide_eq_false (by omega)
  have d0 : decide (1 ≤ cls) = true := decide_eq_true i0
  have d1 : decide (cls ≤ 6) = true := decide_eq_true i1
  have d2 : decide (0 ≤ bk) = true := decide_eq_true i2
  have d3 : decide (bk < 6) = false := decide_eq_false (by omega)
  go_enter Tryd.func6, Tryd.ntmps6
  go_wp2_with fail
  refine (first12_calls HE.out (by decide)).mono ?_
  rintro e w1 ⟨rfl, HB1⟩
  have hs1 := HB1.size
  go_wp2_with fail
  have hl0 := lad_new w.heap.size w1
  have HB2 : Below w.heap.size w (w1.alloc (Obj.cells #[.map none, .int .i64 0] 39)) := by (repeat (first | exact Below.refl _ _ | assumption | refine Below.drew ?_ | refine below_many ?_ _ | refine Below.alloc ?_ (by first | (simp; done) | (simp; omega) | omega) _ | refine Below.setCell ?_ (by first | (simp; done) | (simp; omega) | omega) _))
  refine (lad_set hl0 HB2.size 2 3 77 (by decide)).mono ?_
  rintro e w2 ⟨rfl, hL, hk⟩
  have HB3 : Below w.heap.size w w2 := HB2.trans (hk.below HB2.size (fun k hk' hs => by omega))
  generalize w1.heap.size = lb at *
  have HL := Lib.hid hL
  have HB := Lib.hid HB3
  clear hl0 HB2 hL hk HB3 HB1
  go_wp2_with fail
  refine (cutSet_bad (HE.out.below HB.out) (by decide) _ cls bk bp (decide_eq_false (by omega))).mono ?_
  rintro e w3 ⟨rfl, hb⟩
  unfold ev errV
  have HL3 := Lib.hid (HL.out.below hb)
  have HB3 := Lib.hid (bbase HB.out hb)
  clear hb HL HB
  go_wp2_with fail
  refine (setFx_bad (HE.out.below HB3.out) (by decide) _ bp (decide_eq_false (by omega))).mono ?_
  rintro e w4 ⟨rfl, rfl⟩
  unfold ev errV
  have HL4 := HL3
  have HB4 := HB3
  clear HL3 HB3
  go_wp2_with fail
  refine (is_ev (HE.out.below HB4.out) (k := 2) (by decide) 103).mono ?_
  rintro e w5 ⟨rfl, hb⟩
  have HL5 := Lib.hid (HL4.out.below hb)
  have HB5 := Lib.hid (bbase HB4.out hb)
  clear hb HL4 HB4
  go_wp2_with fail
  refine (is_ev (HE.out.below HB5.out) (k := 2) (by decide) 103).mono ?_
  rintro e w6 ⟨rfl, hb⟩
  have HL6 := Lib.hid (HL5.out.below hb)
  have HB6 := Lib.hid (bbase HB5.out hb)
  clear hb HL5 HB5
  go_wp2_with fail
  refine (lad_get HL6.out cls bk Wc.out Wb.out).mono ?_
  rintro e w7 ⟨rfl, hb⟩
  have HL7 := Lib.hid (HL6.out.below hb)
  have HB7 := Lib.hid (bbase HB6.out hb)
  clear hb HL6 HB6
  rw [show (mget (mput [] (2, 3) 77) (cls, bk)).getD 0 = (0 : Int) by rw [mget_mput_other _ _ (show (cls, bk) ≠ ((2 : Int), (3 : Int)) from fun e => absurd (show cls = 2 ∧ bk = 3 by simpa using e) (by omega))]; rfl]
  go_wp2_with fail
  refine (lad_fx_get HL7.out).mono ?_
  rintro e w8 ⟨rfl, rfl⟩
  go_wp2_with fail
  go_ret
  exact ⟨rfl, HB7.out⟩

set_option maxHeartbeats 2000000 in
set_option maxRecDepth 100000 in
theorem bounds_g3_eqlo {p : Nat → Addr} {w : World} (hE : Errs (List.range 21) w.heap.size p w) (bp : Int)  (g0 : bp < 0) :
    Calls Tryd.prog 6 #[.int .i64 2, .int .i64 3, .int .i64 bp] w fun e w' => e = .returned (.bool true) ∧ Below w.heap.size w w' := by
  have HE := Lib.hid hE; clear hE
  have b0 : decide (0 ≤ bp) = false := decide_eq_false (by omega)
  go_enter Tryd.func6, Tryd.ntmps6
  go_wp2_with fail
  refine (first12_calls HE.out (by decide)).mono ?_
  rintro e w1 ⟨rfl, HB1⟩
  have hs1 := HB1.size
  go_wp2_with fail
  have hl0 := lad_new w.heap.size w1
  have HB2 : Below w.heap.size w (w1.alloc (Obj.cells #[.map none, .int .i64 0] 39)) := by (repeat (first | exact Below.refl _ _ | assumption | refine Below.drew ?_ | refine below_many ?_ _ | refine Below.alloc ?_ (by first | (simp; done) | (simp; omega) | omega) _ | refine Below.setCell ?_ (by first | (simp; done) | (simp; omega) | omega) _))
  refine (lad_set hl0 HB2.size 2 3 77 (by decide)).mono ?_
  rintro e w2 ⟨rfl, hL, hk⟩
  have HB3 : Below w.heap.size w w2 := HB2.trans (hk.below HB2.size (fun k hk' hs => by omega))
  generalize w1.heap.size = lb at *
  have HL := Lib.hid hL
  have HB := Lib.hid HB3
  clear hl0 HB2 hL hk HB3 HB1
  go_wp2_with fail
  refine (cutSet_bad (HE.out.below HB.out) (by decide) _ 2 3 bp (decide_eq_false (by omega))).mono ?_
  rintro e w3 ⟨rfl, hb⟩
  unfold ev errV
  have HL3 := Lib.hid (HL.out.below hb)
  have HB3 := Lib.hid (bbase HB.out hb)
  clear hb HL HB
  go_wp2_with fail
  refine (setFx_bad (HE.out.below HB3.out) (by decide) _ bp (decide_eq_false (by omega))).mono ?_
  rintro e w4 ⟨rfl, rfl⟩
  unfold ev errV
  have HL4 := HL3
  have HB4 := HB3
  clear HL3 HB3
  go_wp2_with fail
  refine (is_ev (HE.out.below HB4.out) (k := 2) (by decide) 103).mono ?_
  rintro e w5 ⟨rfl, hb⟩
  have HL5 := Lib.hid (HL4.out.below hb)
  have HB5 := Lib.hid (bbase HB4.out hb)
  clear hb HL4 HB4
  go_wp2_with fail
  refine (is_ev (HE.out.below HB5.out) (k := 2) (by decide) 103).mono ?_
  rintro e w6 ⟨rfl, hb⟩
  have HL6 := Lib.hid (HL5.out.below hb)
  have HB6 := Lib.hid (bbase HB5.out hb)
  clear hb HL5 HB5
  go_wp2_with fail
  refine (lad_get HL6.out 2 3 (by decide) (by decide)).mono ?_
  rintro e w7 ⟨rfl, hb⟩
  have HL7 := Lib.hid (HL6.out.below hb)
  have HB7 := Lib.hid (bbase HB6.out hb)
  clear hb HL6 HB6
  rw [show (mget (mput [] ((2 : Int), (3 : Int)) 77) (2, 3)).getD 0 = (77 : Int) by decide]
  go_wp2_with fail
  refine (lad_fx_get HL7.out).mono ?_
  rintro e w8 ⟨rfl, rfl⟩
  go_wp2_with fail
  go_ret
  exact ⟨rfl, HB7.out⟩

set_option maxHeartbeats 2000000 in
set_option maxRecDepth 100000 in
theorem bounds_g3_eqhi {p : Nat → Addr} {w : World} (hE : Errs (List.range 21) w.heap.size p w) (bp : Int)  (g1 : 10000 < bp) :
    Calls Tryd.prog 6 #[.int .i64 2, .int .i64 3, .int .i64 bp] w fun e w' => e = .returned (.bool true) ∧ Below w.heap.size w w' := by
  have HE := Lib.hid hE; clear hE
  have b0 : decide (0 ≤ bp) = true := decide_eq_true (by omega)
  have b1 : decide (bp ≤ 10000) = false := decide_eq_false (by omega)
  go_enter Tryd.func6, Tryd.ntmps6
  go_wp2_with fail
  refine (first12_calls HE.out (by decide)).mono ?_
  rintro e w1 ⟨rfl, HB1⟩
  have hs1 := HB1.size
  go_wp2_with fail
  have hl0 := lad_new w.heap.size w1
  have HB2 : Below w.heap.size w (w1.alloc (Obj.cells #[.map none, .int .i64 0] 39)) := by (repeat (first | exact Below.refl _ _ | assumption | refine Below.drew ?_ | refine below_many ?_ _ | refine Below.alloc ?_ (by first | (simp; done) | (simp; omega) | omega) _ | refine Below.setCell ?_ (by first | (simp; done) | (simp; omega) | omega) _))
  refine (lad_set hl0 HB2.size 2 3 77 (by decide)).mono ?_
  rintro e w2 ⟨rfl, hL, hk⟩
  have HB3 : Below w.heap.size w w2 := HB2.trans (hk.below HB2.size (fun k hk' hs => by omega))
  generalize w1.heap.size = lb at *
  have HL := Lib.hid hL
  have HB := Lib.hid HB3
  clear hl0 HB2 hL hk HB3 HB1
  go_wp2_with fail
  refine (cutSet_bad (HE.out.below HB.out) (by decide) _ 2 3 bp (decide_eq_false (by omega))).mono ?_
  rintro e w3 ⟨rfl, hb⟩
  unfold ev errV
  have HL3 := Lib.hid (HL.out.below hb)
  have HB3 := Lib.hid (bbase HB.out hb)
  clear hb HL HB
  go_wp2_with fail
  refine (setFx_bad (HE.out.below HB3.out) (by decide) _ bp (decide_eq_false (by omega))).mono ?_
  rintro e w4 ⟨rfl, rfl⟩
  unfold ev errV
  have HL4 := HL3
  have HB4 := HB3
  clear HL3 HB3
  go_wp2_with fail
  refine (is_ev (HE.out.below HB4.out) (k := 2) (by decide) 103).mono ?_
  rintro e w5 ⟨rfl, hb⟩
  have HL5 := Lib.hid (HL4.out.below hb)
  have HB5 := Lib.hid (bbase HB4.out hb)
  clear hb HL4 HB4
  go_wp2_with fail
  refine (is_ev (HE.out.below HB5.out) (k := 2) (by decide) 103).mono ?_
  rintro e w6 ⟨rfl, hb⟩
  have HL6 := Lib.hid (HL5.out.below hb)
  have HB6 := Lib.hid (bbase HB5.out hb)
  clear hb HL5 HB5
  go_wp2_with fail
  refine (lad_get HL6.out 2 3 (by decide) (by decide)).mono ?_
  rintro e w7 ⟨rfl, hb⟩
  have HL7 := Lib.hid (HL6.out.below hb)
  have HB7 := Lib.hid (bbase HB6.out hb)
  clear hb HL6 HB6
  rw [show (mget (mput [] ((2 : Int), (3 : Int)) 77) (2, 3)).getD 0 = (77 : Int) by decide]
  go_wp2_with fail
  refine (lad_fx_get HL7.out).mono ?_
  rintro e w8 ⟨rfl, rfl⟩
  go_wp2_with fail
  go_ret
  exact ⟨rfl, HB7.out⟩

set_option maxHeartbeats 2000000 in
set_option maxRecDepth 100000 in
theorem bounds_g3_nelo {p : Nat → Addr} {w : World} (hE : Errs (List.range 21) w.heap.size p w) (cls bk bp : Int) (wc : (Lit.int .i64 cls).wf = true) (wb : (Lit.int .i64 bk).wf = true) (g0 : bp < 0) (i0 : 1 ≤ cls) (i1 : cls ≤ 6) (i2 : 0 ≤ bk) (i3 : bk < 6) (ne : ¬ (cls = 2 ∧ bk = 3)) :
    Calls Tryd.prog 6 #[.int .i64 cls, .int .i64 bk, .int .i64 bp] w fun e w' => e = .returned (.bool true) ∧ Below w.heap.size w w' := by
  have HE := Lib.hid hE; clear hE
  have Wc := Lib.hid wc
  have Wb := Lib.hid wb
  clear wc wb
  have Ne := Lib.hid ne
  clear ne
  have b0 : decide (0 ≤ bp) = false := decide_eq_false (by omega)
  have d0 : decide (1 ≤ cls) = true := decide_eq_true i0
  have d1 : decide (cls ≤ 6) = true := decide_eq_true i1
  have d2 : decide (0 ≤ bk) = true := decide_eq_true i2
  have d3 : decide (bk < 6) = true := decide_eq_true i3
  go_enter Tryd.func6, Tryd.ntmps6
  go_wp2_with fail
  refine (first12_calls HE.out (by decide)).mono ?_
  rintro e w1 ⟨rfl, HB1⟩
  have hs1 := HB1.size
  go_wp2_with fail
  have hl0 := lad_new w.heap.size w1
  have HB2 : Below w.heap.size w (w1.alloc (Obj.cells #[.map none, .int .i64 0] 39)) := by (repeat (first | exact Below.refl _ _ | assumption | refine Below.drew ?_ | refine below_many ?_ _ | refine Below.alloc ?_ (by first | (simp; done) | (simp; omega) | omega) _ | refine Below.setCell ?_ (by first | (simp; done) | (simp; omega) | omega) _))
  refine (lad_set hl0 HB2.size 2 3 77 (by decide)).mono ?_
  rintro e w2 ⟨rfl, hL, hk⟩
  have HB3 : Below w.heap.size w w2 := HB2.trans (hk.below HB2.size (fun k hk' hs => by omega))
  generalize w1.heap.size = lb at *
  have HL := Lib.hid hL
  have HB := Lib.hid HB3
  clear hl0 HB2 hL hk HB3 HB1
  go_wp2_with fail
  refine (cutSet_bad (HE.out.below HB.out) (by decide) _ cls bk bp (decide_eq_false (by omega))).mono ?_
  rintro e w3 ⟨rfl, hb⟩
  unfold ev errV
  have HL3 := Lib.hid (HL.out.below hb)
  have HB3 := Lib.hid (bbase HB.out hb)
  clear hb HL HB
  go_wp2_with fail
  refine (setFx_bad (HE.out.below HB3.out) (by decide) _ bp (decide_eq_false (by omega))).mono ?_
  rintro e w4 ⟨rfl, rfl⟩
  unfold ev errV
  have HL4 := HL3
  have HB4 := HB3
  clear HL3 HB3
  go_wp2_with fail
  refine (is_ev (HE.out.below HB4.out) (k := 2) (by decide) 103).mono ?_
  rintro e w5 ⟨rfl, hb⟩
  have HL5 := Lib.hid (HL4.out.below hb)
  have HB5 := Lib.hid (bbase HB4.out hb)
  clear hb HL4 HB4
  go_wp2_with fail
  refine (is_ev (HE.out.below HB5.out) (k := 2) (by decide) 103).mono ?_
  rintro e w6 ⟨rfl, hb⟩
  have HL6 := Lib.hid (HL5.out.below hb)
  have HB6 := Lib.hid (bbase HB5.out hb)
  clear hb HL5 HB5
  go_wp2_with fail
  refine (lad_get HL6.out cls bk Wc.out Wb.out).mono ?_
  rintro e w7 ⟨rfl, hb⟩
  have HL7 := Lib.hid (HL6.out.below hb)
  have HB7 := Lib.hid (bbase HB6.out hb)
  clear hb HL6 HB6
  rw [show (mget (mput [] (2, 3) 77) (cls, bk)).getD 0 = (0 : Int) by rw [mget_mput_other _ _ (show (cls, bk) ≠ ((2 : Int), (3 : Int)) from fun e => absurd (show cls = 2 ∧ bk = 3 by simpa using e) (by have := Ne.out; omega))]; rfl]
  go_wp2_with fail
  refine (lad_fx_get HL7.out).mono ?_
  rintro e w8 ⟨rfl, rfl⟩
  go_wp2_with fail
  go_ret
  exact ⟨rfl, HB7.out⟩

set_option maxHeartbeats 2000000 in
set_option maxRecDepth 100000 in
theorem bounds_g3_nehi {p : Nat → Addr} {w : World} (hE : Errs (List.range 21) w.heap.size p w) (cls bk bp : Int) (wc : (Lit.int .i64 cls).wf = true) (wb : (Lit.int .i64 bk).wf = true) (g1 : 10000 < bp) (i0 : 1 ≤ cls) (i1 : cls ≤ 6) (i2 : 0 ≤ bk) (i3 : bk < 6) (ne : ¬ (cls = 2 ∧ bk = 3)) :
    Calls Tryd.prog 6 #[.int .i64 cls, .int .i64 bk, .int .i64 bp] w fun e w' => e = .returned (.bool true) ∧ Below w.heap.size w w' := by
  have HE := Lib.hid hE; clear hE
  have Wc := Lib.hid wc
  have Wb := Lib.hid wb
  clear wc wb
  have Ne := Lib.hid ne
  clear ne
  have b0 : decide (0 ≤ bp) = true := decide_eq_true (by omega)
  have b1 : decide (bp ≤ 10000) = false := decide_eq_false (by omega)
  have d0 : decide (1 ≤ cls) = true := decide_eq_true i0
  have d1 : decide (cls ≤ 6) = true := decide_eq_true i1
  have d2 : decide (0 ≤ bk) = true := decide_eq_true i2
  have d3 : decide (bk < 6) = true := decide_eq_true i3
  go_enter Tryd.func6, Tryd.ntmps6
  go_wp2_with fail
  refine (first12_calls HE.out (by decide)).mono ?_
  rintro e w1 ⟨rfl, HB1⟩
  have hs1 := HB1.size
  go_wp2_with fail
  have hl0 := lad_new w.heap.size w1
  have HB2 : Below w.heap.size w (w1.alloc (Obj.cells #[.map none, .int .i64 0] 39)) := by (repeat (first | exact Below.refl _ _ | assumption | refine Below.drew ?_ | refine below_many ?_ _ | refine Below.alloc ?_ (by first | (simp; done) | (simp; omega) | omega) _ | refine Below.setCell ?_ (by first | (simp; done) | (simp; omega) | omega) _))
  refine (lad_set hl0 HB2.size 2 3 77 (by decide)).mono ?_
  rintro e w2 ⟨rfl, hL, hk⟩
  have HB3 : Below w.heap.size w w2 := HB2.trans (hk.below HB2.size (fun k hk' hs => by omega))
  generalize w1.heap.size = lb at *
  have HL := Lib.hid hL
  have HB := Lib.hid HB3
  clear hl0 HB2 hL hk HB3 HB1
  go_wp2_with fail
  refine (cutSet_bad (HE.out.below HB.out) (by decide) _ cls bk bp (decide_eq_false (by omega))).mono ?_
  rintro e w3 ⟨rfl, hb⟩
  unfold ev errV
  have HL3 := Lib.hid (HL.out.below hb)
  have HB3 := Lib.hid (bbase HB.out hb)
  clear hb HL HB
  go_wp2_with fail
  refine (setFx_bad (HE.out.below HB3.out) (by decide) _ bp (decide_eq_false (by omega))).mono ?_
  rintro e w4 ⟨rfl, rfl⟩
  unfold ev errV
  have HL4 := HL3
  have HB4 := HB3
  clear HL3 HB3
  go_wp2_with fail
  refine (is_ev (HE.out.below HB4.out) (k := 2) (by decide) 103).mono ?_
  rintro e w5 ⟨rfl, hb⟩
  have HL5 := Lib.hid (HL4.out.below hb)
  have HB5 := Lib.hid (bbase HB4.out hb)
  clear hb HL4 HB4
  go_wp2_with fail
  refine (is_ev (HE.out.below HB5.out) (k := 2) (by decide) 103).mono ?_
  rintro e w6 ⟨rfl, hb⟩
  have HL6 := Lib.hid (HL5.out.below hb)
  have HB6 := Lib.hid (bbase HB5.out hb)
  clear hb HL5 HB5
  go_wp2_with fail
  refine (lad_get HL6.out cls bk Wc.out Wb.out).mono ?_
  rintro e w7 ⟨rfl, hb⟩
  have HL7 := Lib.hid (HL6.out.below hb)
  have HB7 := Lib.hid (bbase HB6.out hb)
  clear hb HL6 HB6
  rw [show (mget (mput [] (2, 3) 77) (cls, bk)).getD 0 = (0 : Int) by rw [mget_mput_other _ _ (show (cls, bk) ≠ ((2 : Int), (3 : Int)) from fun e => absurd (show cls = 2 ∧ bk = 3 by simpa using e) (by have := Ne.out; omega))]; rfl]
  go_wp2_with fail
  refine (lad_fx_get HL7.out).mono ?_
  rintro e w8 ⟨rfl, rfl⟩
  go_wp2_with fail
  go_ret
  exact ⟨rfl, HB7.out⟩

theorem walk_CutBounds {p : Nat → Addr} {w : World} (hE : Errs (List.range 21) w.heap.size p w) (cls bk bp : Int) (h1 : -9223372036854775808 ≤ cls) (h2 : cls ≤ 9223372036854775807) (h3 : -9223372036854775808 ≤ bk) (h4 : bk ≤ 9223372036854775807) (h5 : -9223372036854775808 ≤ bp) (h6 : bp ≤ 9223372036854775807) :
    Calls Tryd.prog 6 #[.int .i64 cls, .int .i64 bk, .int .i64 bp] w fun e w' => e = .returned (.bool true) ∧ Below w.heap.size w w' := by
  have wc := i64wf h1 h2
  have wb := i64wf h3 h4
  by_cases g0 : 0 ≤ bp
  · by_cases g1 : bp ≤ 10000
    · by_cases i0 : 1 ≤ cls
      · by_cases i1 : cls ≤ 6
        · by_cases i2 : 0 ≤ bk
          · by_cases i3 : bk < 6
            · exact bounds_g1 hE cls bk bp wc wb g0 g1 i0 i1 i2 i3
            · exact bounds_g2_3 hE cls bk bp wc wb g0 g1 i0 i1 i2 (by omega)
          · exact bounds_g2_2 hE cls bk bp wc wb g0 g1 i0 i1 (by omega)
        · exact bounds_g2_1 hE cls bk bp wc wb g0 g1 i0 (by omega)
      · exact bounds_g2_0 hE cls bk bp wc wb g0 g1 (by omega)
    · have g1' : 10000 < bp := by omega
      by_cases i0 : 1 ≤ cls
      · by_cases i1 : cls ≤ 6
        · by_cases i2 : 0 ≤ bk
          · by_cases i3 : bk < 6
            · by_cases ne : cls = 2 ∧ bk = 3
              · obtain ⟨rfl, rfl⟩ := ne
                exact bounds_g3_eqhi hE bp g1'
              · exact bounds_g3_nehi hE cls bk bp wc wb g1' i0 i1 i2 i3 ne
            · exact bounds_g3_3hi hE cls bk bp wc wb g1' i0 i1 i2 (by omega)
          · exact bounds_g3_2hi hE cls bk bp wc wb g1' i0 i1 (by omega)
        · exact bounds_g3_1hi hE cls bk bp wc wb g1' i0 (by omega)
      · exact bounds_g3_0hi hE cls bk bp wc wb g1' (by omega)
  · have g1' : bp < 0 := by omega
    by_cases i0 : 1 ≤ cls
    · by_cases i1 : cls ≤ 6
      · by_cases i2 : 0 ≤ bk
        · by_cases i3 : bk < 6
          · by_cases ne : cls = 2 ∧ bk = 3
            · obtain ⟨rfl, rfl⟩ := ne
              exact bounds_g3_eqlo hE bp g1'
            · exact bounds_g3_nelo hE cls bk bp wc wb g1' i0 i1 i2 i3 ne
          · exact bounds_g3_3lo hE cls bk bp wc wb g1' i0 i1 i2 (by omega)
        · exact bounds_g3_2lo hE cls bk bp wc wb g1' i0 i1 (by omega)
      · exact bounds_g3_1lo hE cls bk bp wc wb g1' i0 (by omega)
    · exact bounds_g3_0lo hE cls bk bp wc wb g1' (by omega)

end Go.Proofs.YtcfhlndnohbclaaDoor
