/- The walk of pledgelaw6.RootBytes: it returns true, and writes nothing that was there. -/
import Derived.Test.YtehacchacgfjlaaDoorRoot7
import Derived.Deep.DeepCutAuto
import Derived.Deep.CutBlock
namespace Go.Proofs.YtehacchacgfjlaaDoor
open Go.Maps
open Go Go.RowKit
set_option linter.unusedSimpArgs false
set_option linter.unusedVariables false

/-- A slice of numbers that came in, as a list. -/
theorem IsRow.list6 {w : World} {a : Option Addr} {len cap : Nat} {zs : List Int} (h : IsRow .i64 w a len cap zs) :
    ∃ qs, RdK .i64 w (.slice a len cap) qs ∧ qs.length = len ∧ (∀ z ∈ qs, -9223372036854775808 ≤ z ∧ z ≤ 9223372036854775807) := by
  refine ⟨zs.take len, h.rdK, ?_, fun z hz => ?_⟩
  · rcases h with ⟨_, h0, _⟩ | ⟨x, _, h1, _, h3, _⟩
    · rw [h0]; rfl
    · rw [List.length_take]; omega
  · rcases h with ⟨_, _, _, h0⟩ | ⟨x, _, _, _, _, _, h5⟩
    · rw [h0] at hz; simp at hz
    · exact bounds_i64 (h5 z (List.mem_of_mem_take hz))
/-- What the loop says of the first k numbers. -/
def badK (l : List Int) (b0 : Int) (k : Nat) : Int := if (l.take k).all numB then b0 else 103
theorem badK_succ (l : List Int) (b0 : Int) (k : Nat) (h : k < l.length) : badK l b0 (k + 1) = if numB (l.getD k 0) then badK l b0 k else 103 := by
  unfold badK
  rw [take_snocK h, List.all_append]
  cases h1 : (l.take k).all numB with
  | false => simp
  | true =>
    cases h2 : numB (l.getD k 0) with
    | true => simp only [List.all_cons, List.all_nil, h2, Bool.and_true, if_true]
    | false => simp only [List.all_cons, List.all_nil, h2, Bool.and_false, Bool.false_and, if_false, Bool.false_eq_true]
/-- The code that Bytes is to tell. -/
def codeR (e : Int) (l : List Int) : Int := if rootOk e l then 0 else 101 + (rootErr e l : Int)
theorem codeR_eq (e : Int) (l : List Int) : codeR e l = if 1 ≤ e ∧ e ≤ 1099511627776 then badK l (if 40 < l.length then 105 else 0) l.length else 103 := by
  unfold codeR badK rootErr
  rw [List.take_length]
  by_cases h1 : 1 ≤ e ∧ e ≤ 1099511627776
  · rw [if_pos h1, decide_eq_true h1.1, decide_eq_true h1.2]
    cases h2 : l.all numB with
    | true =>
      have h3 := (numB_all l).1 h2
      by_cases h4 : 40 < l.length
      · rw [if_neg (fun h => by have := h.2.2; omega), if_pos h4]; rfl
      · rw [if_pos ⟨h1, h3, by omega⟩, if_neg h4]; rfl
    | false =>
      rw [if_neg (fun h => by have := (numB_all l).2 h.2.1; rw [h2] at this; cases this)]
      simp
  · rw [if_neg h1, if_neg (fun h => h1 h.1)]
    have : (decide (1 ≤ e) && decide (e ≤ 1099511627776)) = false := by
      rw [← Bool.not_eq_true, Bool.and_eq_true, decide_eq_true_eq, decide_eq_true_eq]; exact h1
    rw [this]
    simp
set_option maxHeartbeats 8000000 in
set_option maxRecDepth 100000 in
theorem walk_RootBytes {p : Nat → Addr} {w : World} (hE : Errs (List.range 21) w.heap.size p w) (e : Int) (la : Option Addr) (len cap : Nat) (zs : List Int) (cu : Int) (h1 : -9223372036854775808 ≤ e) (h2 : e ≤ 9223372036854775807) (hrow : IsRow .i64 w la len cap zs) (h3 : -9223372036854775808 ≤ cu) (h4 : cu ≤ 9223372036854775807) :
    Calls Tryd.prog 8 #[.int .i64 e, .slice la len cap, .int .i64 cu] w fun r w' => r = .returned (.bool true) ∧ Below w.heap.size w w' := by
  obtain ⟨l, l1, l2, l3⟩ := hrow.list6
  subst l2
  have HE := Lib.hid hE
  have HL := Lib.hid l1
  clear l1 l3 hrow hE
  go_enter Tryd.func8, Tryd.ntmps8
  go_wp2_with fail
  refine (first6_calls HE.out (by decide) (by decide)).mono ?_
  rintro r w1 ⟨rfl, hb⟩
  have HB := Lib.hid hb
  clear hb
  by_cases hl60 : 60 < l.length
  · go_wp2_with fail
    go_ret
    exact ⟨rfl, HB.out⟩
  have HL1 := Lib.hid (HL.out.below HB.out)
  obtain ⟨b0, hb0⟩ : ∃ b0 : Int, b0 = if 40 < l.length then 105 else 0 := ⟨_, rfl⟩
  have HB0 := Lib.hid hb0
  have HK0 : Hid (badK l b0 0 = b0) := by unfold Hid badK; rfl
  clear hb0
  go_upto_if 33 with fail
  go_cut [8] (fun s wx => s = .int .i64 b0 ∧ w1 = wx)
  case first =>
    by_cases hl40 : 40 < l.length
    · have hb0 := HB0.out
      rw [if_pos hl40] at hb0
      subst hb0
      have hd40 : decide (40 < l.length) = true := decide_eq_true hl40
      go_wp2_with fail
      go_meet
      exact ⟨rfl, rfl⟩
    · have hb0 := HB0.out
      rw [if_neg hl40] at hb0
      subst hb0
      have hd40 : decide (40 < l.length) = false := decide_eq_false hl40
      go_wp2_with fail
      go_meet
      exact ⟨rfl, rfl⟩
  case rest =>
    obtain ⟨rfl, rfl⟩ := hcut
    go_wp2_with fail
    go_loopw [9, 8] (fun i u wq => ∃ k : Nat, k ≤ l.length ∧ i = .int .i64 k ∧ u = .int .i64 (badK l b0 k) ∧ w1 = wq) (fun i _ _ => l.length - (intOf i).toNat)
    case atStart => exact ⟨0, Nat.zero_le _, rfl, by rw [HK0.out], rfl⟩
    case round =>
      obtain ⟨k, hk, rfl, rfl, rfl⟩ := hrel
      by_cases hkl : k < l.length
      · rcases HL1.out with ⟨h0, _⟩ | ⟨b, off, c1, hvv, _, hcm, hb, hcell⟩
        · rw [h0] at hkl; simp at hkl
        simp only [Value.slice.injEq, true_and] at hvv
        obtain ⟨rfl, rfl⟩ := hvv
        have d1 := hcell k hkl
        have HBS := Lib.hid (badK_succ l b0 k hkl)
        generalize l.getD k 0 = x at d1 HBS
        unfold maxLen at hcm
        clear hcell
        by_cases hx : x < 0
        · have HBx : Hid (badK l b0 (k + 1) = 103) := by
            unfold Hid; rw [HBS.out, show numB x = false by unfold numB; simp; omega]; rfl
          go_wp2_with fail
          go_roundw
          case rel => exact ⟨k + 1, by omega, by go_num, by rw [HBx.out], trivial⟩
          case measure => simp [intOf]; omega
        · by_cases hx2 : 8192 < x
          · have HBx : Hid (badK l b0 (k + 1) = 103) := by
              unfold Hid; rw [HBS.out, show numB x = false by unfold numB; simp; omega]; rfl
            have hd1 : decide (x < 0) = false := decide_eq_false hx
            have hd2 : decide (8192 < x) = true := decide_eq_true hx2
            go_wp2_with fail
            go_roundw
            case rel => exact ⟨k + 1, by omega, by go_num, by rw [HBx.out], trivial⟩
            case measure => simp [intOf]; omega
          · have HBx : Hid (badK l b0 (k + 1) = badK l b0 k) := by
              unfold Hid; rw [HBS.out, show numB x = true by unfold numB; simp; omega]; rfl
            have hd1 : decide (x < 0) = false := decide_eq_false hx
            have hd2 : decide (8192 < x) = false := decide_eq_false hx2
            go_wp2_with fail
            go_roundw
            case rel => exact ⟨k + 1, by omega, by go_num, by rw [HBx.out], trivial⟩
            case measure => simp [intOf]; omega
      · obtain rfl : k = l.length := by omega
        have HCd := Lib.hid (codeR_eq e l)
        obtain ⟨q, hq⟩ : ∃ q : Bool, q = (decide (e < 1) || decide (1099511627776 < e)) := ⟨_, rfl⟩
        have HQ := Lib.hid hq
        clear hq
        go_upto_region 14 with fail
        go_cut [57] (fun s wx => s = .bool q ∧ w1 = wx)
        case first =>
          by_cases he1 : e < 1
          · have hd1 : decide (e < 1) = true := decide_eq_true he1
            go_wp2_with fail
            go_meet
            exact ⟨by rw [HQ.out, hd1]; rfl, rfl⟩
          · have hd1 : decide (e < 1) = false := decide_eq_false he1
            go_wp2_with fail
            go_meet
            exact ⟨by rw [HQ.out, hd1]; rfl, rfl⟩
        case rest =>
          obtain ⟨rfl, rfl⟩ := hcut
          go_upto_if 57 with fail
          go_cut [8] (fun s wx => s = .int .i64 (codeR e l) ∧ w1 = wx)
          case first =>
            cases q with
            | true =>
              have HCe : Hid (codeR e l = 103) := by
                unfold Hid; rw [HCd.out, if_neg (fun h => ?_)]
                have := HQ.out
                rw [decide_eq_false (show ¬ e < 1 by omega), decide_eq_false (show ¬ 1099511627776 < e by omega)] at this
                cases this
              go_wp2_with fail
              go_meet
              exact ⟨by rw [HCe.out], rfl⟩
            | false =>
              have HCe : Hid (codeR e l = badK l b0 l.length) := by
                have h := HQ.out.symm
                rw [Bool.or_eq_false_iff, decide_eq_false_iff_not, decide_eq_false_iff_not] at h
                unfold Hid; rw [HCd.out, if_pos (by omega), HB0.out]
              go_wp2_with fail
              go_meet
              exact ⟨by rw [HCe.out], rfl⟩
          case rest =>
            obtain ⟨rfl, rfl⟩ := hcut
            go_wp2_with fail
            refine (made_calls e HL1.out (by omega)).mono ?_
            rintro r w2 ⟨u2, rfl, hO, hb⟩
            have HU2 := Lib.hid hO.rdK
            replace HB : Hid (Below w.heap.size w w2) := HB.out.trans (hb.mono HB.out.size)
            obtain ⟨a2, c2, rfl⟩ := hO.len
            clear hO hb HL1
            go_wp2_with fail
            by_cases hok : rootOk e l
            · have HCe : Hid (codeR e l = 0) := by unfold Hid codeR; rw [if_pos hok]
              have HOK := Lib.hid hok
              refine (bytes_ok HU2.out hok).mono ?_
              rintro r w3 ⟨u3, rfl, hO, hb⟩
              have hl3 := rootL_length e l
              obtain ⟨g3, c3, rfl, hg1, hg2, hg3, hg4, _, _⟩ := hO.cells (by rw [hl3]; decide)
              have hR3 := hO.rd
              rw [hl3] at hR3 hg3 ⊢
              have HR3 := Lib.hid hR3
              replace HB : Hid (Below w.heap.size w w3) := HB.out.trans (hb.mono HB.out.size)
              unfold maxLen at hg4
              clear hl3
              clear hO hb hok HU2 hR3
              rw [HCe.out]
              go_wp2_with fail
              refine (is_nil 0 _).mono ?_
              rintro r w4 ⟨rfl, hb⟩
              replace HR3 := Lib.hid (HR3.out.below hb)
              replace HB : Hid (Below w.heap.size w w4) := HB.out.trans (hb.mono HB.out.size)
              rw [show ((0 : Int) == 0) = true from rfl]
              clear hb
              go_wp2_with fail
              refine (read_calls (HE.out.below HB.out) (by decide) (by decide) HR3.out (rootL_bytes e l (by have := HOK.out.2.2; omega))).mono ?_
              rintro r w5 ⟨hb, hcase⟩
              obtain ⟨v5, rfl, hV5⟩ : ∃ v5, r = .returned (.tuple #[rootV e v5, .bool true]) ∧ RdK .i64 w5 v5 l := by
                rcases hcase with ⟨e', l', v5, hre, rfl, hV, _⟩ | ⟨hre, _⟩
                · rw [readL_rootL e l HOK.out] at hre
                  cases hre
                  exact ⟨v5, rfl, hV⟩
                · rw [readL_rootL e l HOK.out] at hre
                  cases hre
              have HV5 := Lib.hid hV5
              obtain ⟨a5, c5, rfl, _, _⟩ := hV5.len
              replace HR3 := Lib.hid (HR3.out.below hb)
              replace HB : Hid (Below w.heap.size w w5) := HB.out.trans (hb.mono HB.out.size)
              clear hb hV5 hcase
              obtain ⟨wx, hwx⟩ : ∃ wx, wx = w5.alloc (.cells #[.int .i64 e, .slice a5 l.length c5] 48) := ⟨_, rfl⟩
              have hbx : Below w5.heap.size w5 wx := by rw [hwx]; (repeat (first | exact Below.refl _ _ | assumption | refine Below.drew ?_ | refine below_many ?_ _ | refine Below.alloc ?_ (by first | (simp; done) | (simp; omega) | omega) _ | refine Below.setCell ?_ (by first | (simp; done) | (simp; omega) | omega) _))
              have hx0 : wx.cell? ⟨w5.heap.size, 0, none⟩ = some (.int .i64 e) := by rw [hwx]; exact cell_new w5 _ _ 0
              have hx1 : wx.cell? ⟨w5.heap.size, 1, none⟩ = some (.slice a5 l.length c5) := by rw [hwx]; exact cell_new w5 _ _ 1
              have hxs : w5.heap.size < wx.heap.size := by rw [hwx]; simp
              have HXC : Hid (∀ wq, Below wx.heap.size wx wq → wq.cell? ⟨w5.heap.size, 0, none⟩ = some (.int .i64 e) ∧ wq.cell? ⟨w5.heap.size, 1, none⟩ = some (.slice a5 l.length c5)) := fun wq hq => ⟨(hq.cell (p := ⟨w5.heap.size, 0, none⟩) hxs).trans hx0, (hq.cell (p := ⟨w5.heap.size, 1, none⟩) hxs).trans hx1⟩
              have HVx := Lib.hid (HV5.out.below hbx)
              have HRx := Lib.hid (HR3.out.below hbx)
              have HWX := Lib.hid hwx
              have HBx : Hid (Below w.heap.size w wx) := HB.out.trans (hbx.mono HB.out.size)
              have HBq : Hid (Below wx.heap.size wx wx) := Below.refl _ _
              clear hwx hbx hx0 hx1 HV5 HR3 HB
              obtain ⟨i0, hi0, hz0, hz1, hz2⟩ := info_parts infoB
              go_wp2_with (at_make; rw [← HWX.out]; refine wpList_make_row _ rfl _ _ 30 rfl 5 i0 (.int .u8 0) Tryd.underlying30 hi0 hz0 hz1 rfl _ _ 128 rfl rfl (by rw [hz2]; decide) (by decide) ?_; obtain ⟨w6, hw6⟩ : ∃ w6, w6 = wx.alloc (.cells (madeCells #[.int .u8 0] 128) 5) := ⟨_, rfl⟩; rw [← hw6]; have HW6 := Lib.hid hw6; clear hw6)
              have hb6 : Below wx.heap.size wx w6 := by rw [HW6.out]; (repeat (first | exact Below.refl _ _ | assumption | refine Below.drew ?_ | refine below_many ?_ _ | refine Below.alloc ?_ (by first | (simp; done) | (simp; omega) | omega) _ | refine Below.setCell ?_ (by first | (simp; done) | (simp; omega) | omega) _))
              have HZ6 : Hid (RdB w6 (.slice (some ⟨wx.heap.size, 0, none⟩) 128 128) (List.replicate 128 0)) := by
                unfold Hid
                rw [HW6.out]
                exact rowIs_rd (World.rowIs_made wx (.int .u8 0) 128 5)
              replace HBq : Hid (Below wx.heap.size wx w6) := hb6
              clear hb6 HW6
              refine (read_calls (HE.out.below (HBx.out.trans (HBq.out.mono HBx.out.size))) (by decide) (by decide) HZ6.out (by intro x hx; rw [List.eq_of_mem_replicate hx]; decide)).mono ?_
              rintro r w7 ⟨hb, hcase⟩
              obtain rfl : r = .returned noRoot := by
                rcases hcase with ⟨e', l', v5, hre, _⟩ | ⟨_, h⟩
                · rw [readL_zero] at hre; cases hre
                · exact h
              replace HBq : Hid (Below wx.heap.size wx w7) := HBq.out.trans (hb.mono HBq.out.size)
              clear hb hcase HZ6
              unfold noRoot
              go_wp2_with fail
              refine (number_calls cu 128 (by decide) (by decide) _).mono ?_
              rintro r w8 ⟨rfl, rfl⟩
              have hn0 := Int.emod_nonneg cu (show (128 : Int) ≠ 0 by decide)
              have hn1 := Int.emod_lt_of_pos cu (show (0 : Int) < 128 by decide)
              obtain ⟨m, hm⟩ : ∃ m : Nat, cu % 128 = (m : Int) := ⟨(cu % 128).toNat, by omega⟩
              rw [hm] at hn0 hn1 ⊢
              clear hm
              replace HBq : Hid (Below wx.heap.size wx (w7.alloc (.cells #[.int .i64 0, .slice none 0 0] 48))) := HBq.out.alloc HBq.out.size _
              have HR8 := Lib.hid (HRx.out.below HBq.out)
              have HR9 : Hid (RdB (w7.alloc (.cells #[.int .i64 0, .slice none 0 0] 48)) (.slice (some ⟨g3, 0, none⟩) m c3) ((rootL e l).take m)) := by
                have hl3 := rootL_length e l
                have hlm : ((rootL e l).take m).length = m := by rw [List.length_take, hl3]; omega
                rcases HR8.out with ⟨_, h0⟩ | ⟨g, off, c, hv, q1, q2, q3, q4⟩
                · rw [h0] at hl3; cases hl3
                · simp only [Value.slice.injEq, Option.some.injEq, Addr.mk.injEq, and_true] at hv
                  obtain ⟨⟨rfl, rfl⟩, _, rfl⟩ := hv
                  refine .inr ⟨g3, 0, c3, by rw [hlm], by rw [hlm]; omega, q2, q3, fun i hi => ?_⟩
                  rw [hlm] at hi
                  rw [q4 i (by rw [hl3]; omega)]
                  simp [List.getD, List.getElem?_take, hi]
              go_wp2_with fail
              refine (read_calls (HE.out.below (HBx.out.trans (HBq.out.mono HBx.out.size))) (by decide) (by decide) HR9.out (fun x hx => rootL_bytes e l (by have := HOK.out.2.2; omega) x (List.mem_of_mem_take hx))).mono ?_
              rintro r w9 ⟨hb, hcase⟩
              obtain rfl : r = .returned noRoot := by
                rcases hcase with ⟨e', l', v5, hre, _⟩ | ⟨_, h⟩
                · rw [readL_length (by rw [List.length_take, rootL_length]; omega)] at hre; cases hre
                · exact h
              replace HBq : Hid (Below wx.heap.size wx w9) := HBq.out.trans (hb.mono HBq.out.size)
              have HR10 := Lib.hid (HRx.out.below (HBq.out.alloc HBq.out.size (.cells #[.int .i64 0, .slice none 0 0] 48)))
              clear hb hcase HR9 HR8
              unfold noRoot
              go_wp2_with fail
              have hs9 := HBq.out.size
              refine (refBytes_calls HR10.out (by rw [rootL_length]; decide)).mono ?_
              rintro r w10 ⟨u, rfl, hO, hb⟩
              replace HBq : Hid (Below wx.heap.size wx w10) := (HBq.out.alloc HBq.out.size _).trans (hb.mono (by have := HBq.out.size; simp; omega))
              obtain ⟨g4, c4, rfl, _, _, hc4, _, _, _⟩ := hO.cells (by rw [rootL_length]; decide)
              have HO := Lib.hid hO
              have hs10 := hb.size
              have HL7 : Hid ((rootL e l).length = 128) := rootL_length e l
              clear hO hb HR10
              go_wp2_with (at_builtin; refine wpList_appB rfl _ _ 30 rfl Tryd.underlying30 infoB _ _ (rootL e l) [0] rfl (HO.out.alloc _) _ rfl (rdB_one w10 0 _) (by rw [HL7.out]; decide) (by simp at hs10 ⊢; omega) ?_)
              intro v11 w11 hO11 hk11
              have HB11 : Hid (Below wx.heap.size wx w11) := (HBq.out.alloc HBq.out.size _).trans (hk11.below (by have := HBq.out.size; simp; omega) (fun z hz e => by have h1 := HO.out.block z e; simp at h1; omega))
              have HR11 : Hid (RdB w11 v11 (rootL e l ++ [0])) := hO11.rd
              obtain ⟨a11, c11, rfl⟩ := hO11.len
              clear hO11 hk11 HO HBq
              go_wp2_with fail
              refine (read_calls (HE.out.below (HBx.out.trans (HB11.out.mono HBx.out.size))) (by decide) (by decide) HR11.out (fun x hx => by
                rcases List.mem_append.1 hx with hx | hx
                · exact rootL_bytes e l (by have := HOK.out.2.2; omega) x hx
                · rw [List.mem_singleton.1 hx]; decide)).mono ?_
              rintro r w12 ⟨hb, hcase⟩
              obtain rfl : r = .returned noRoot := by
                rcases hcase with ⟨e', l', v5, hre, _⟩ | ⟨_, h⟩
                · rw [readL_length (by rw [List.length_append, rootL_length]; decide)] at hre; cases hre
                · exact h
              have HB12 : Hid (Below wx.heap.size wx (w12.alloc (.cells #[.int .i64 0, .slice none 0 0] 48))) := (HB11.out.trans (hb.mono HB11.out.size)).alloc (by have := HB11.out.size; have := hb.size; omega) _
              obtain ⟨x0, x1⟩ := HXC.out _ HB12.out
              clear hb hcase HR11
              unfold noRoot
              obtain ⟨wy, hwy⟩ : ∃ wy, wy = w12.alloc (.cells #[.int .i64 0, .slice none 0 0] 48) := ⟨_, rfl⟩
              rw [← hwy] at HB12 x0 x1
              have HWY := Lib.hid hwy
              have HBy : Hid (Below wx.heap.size wx wy.drew) := HB12.out.drew
              have HLy := Lib.hid (HL.out.below (HBx.out.trans (HBy.out.mono HBx.out.size)))
              have HKa : wy.drew.cell? ⟨w5.heap.size, 0, none⟩ = some (.int .i64 e) ∧ wy.drew.cell? ⟨w5.heap.size, 1, none⟩ = some (.slice a5 l.length c5) := ⟨x0, x1⟩
              clear hwy x0 x1
              go_wp2_with fail
              rw [← HWY.out]
              go_region_held3 (fun wq => wq.cell? ⟨w5.heap.size, 0, none⟩ = some (.int .i64 e) ∧ wq.cell? ⟨w5.heap.size, 1, none⟩ = some (.slice a5 l.length c5))
                (first | exact HKc | exact HKb | exact HKa)
                (first
                  | (go_at_call 32; refine (made_calls e HLy.out (by omega)).mono ?_; rintro r w13 ⟨u13, rfl, hO, hb⟩; have HBz : Hid (Below wx.heap.size wx w13) := HBy.out.trans (hb.mono HBy.out.size); have HKb := HXC.out _ HBz.out; have HU := Lib.hid hO.rdK; obtain ⟨a13, c13, rfl⟩ := hO.len; have HVz := Lib.hid (HVx.out.below HBz.out); clear hO hb)
                  | (go_at_call 35; refine (same_calls e e HVz.out HU.out).mono ?_; rintro r w14 ⟨rfl, hb⟩; have HBw : Hid (Below wx.heap.size wx w14) := HBz.out.trans (hb.mono HBz.out.size); have HKc := HXC.out _ HBw.out; rw [show decide (e = e ∧ l = l) = true by simp]; clear hb))
              all_goals
                go_wp2_with fail
                go_ret
                exact ⟨rfl, HBx.out.trans (HBw.out.mono HBx.out.size)⟩
            · have HCe : Hid (codeR e l = 101 + (rootErr e l : Int)) := by unfold Hid codeR; rw [if_neg hok]
              have hk21 : rootErr e l < 21 := by unfold rootErr; split <;> omega
              refine (bytes_bad (HE.out.below HB.out) (by decide) (by decide) HU2.out hok).mono ?_
              rintro r w3 ⟨rfl, hb⟩
              replace HB : Hid (Below w.heap.size w w3) := HB.out.trans (hb.mono HB.out.size)
              rw [HCe.out]
              generalize rootErr e l = kk at hk21
              clear hb hok HU2 HCe HCd
              rw [show ev p kk = Value.iface 236 (.pointer (some (p kk))) from rfl]
              go_wp2_with fail
              refine (is_ev (HE.out.below HB.out) (k := kk) hk21 _).mono ?_
              rintro r w4 ⟨rfl, hb⟩
              replace HB : Hid (Below w.heap.size w w4) := HB.out.trans (hb.mono HB.out.size)
              rw [show ((101 + (kk : Int)) == 101 + (kk : Int)) = true by simp]
              clear hb
              go_wp2_with fail
              go_ret
              exact ⟨rfl, HB.out⟩
end Go.Proofs.YtehacchacgfjlaaDoor
