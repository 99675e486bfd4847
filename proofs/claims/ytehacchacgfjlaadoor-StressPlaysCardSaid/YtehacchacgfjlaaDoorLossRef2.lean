/- Package pledgeref10: Losses.Two, Losses.Cover: what each call returns. -/
import Derived.Test.YtehacchacgfjlaaDoorLossRef
import Derived.Deep.RegionLaw
namespace Go.Proofs.YtehacchacgfjlaaDoor
open Go.Maps
open Go Go.RowKit
set_option linter.unusedSimpArgs false
set_option linter.unusedVariables false

theorem aboveN_max (m : LossM) (s : Int) (xs : List Int) (k : Nat) : aboveN m s xs k = max ((mget m (s, (k : Int) + 1)).getD 0 - xs.getD k 0) 0 := rfl
theorem cellN_new (w : World) (y : Int) (E : TypeId) : ∀ i, i < [y].length → ((w.alloc (.cells #[.int .i64 y] E)).drew).cell? ((⟨w.heap.size, 0, none⟩ : Addr).add i) = some (.int .i64 ([y].getD i 0)) := fun i hi => by
  obtain rfl : i = 0 := by simpa using hi
  go_simp

set_option maxHeartbeats 4000000 in
set_option maxRecDepth 100000 in
theorem twoRef_ok {w : World} {g : Nat} {m : LossM} (h : Arr w g 561 (lossF m)) (hbd : ∀ x ∈ m, 0 ≤ x.2 ∧ x.2 ≤ 1000000000000000)
    (s : Int) {v : Value} {xs : List Int} (hv : SlI w v xs) (hl : ¬ (32 : Int) < xs.length) (hs : isScene s = true) :
    Calls Tryd.prog 56 #[.pointer (some ⟨g, 0, none⟩), .int .i64 s, v] w fun e w' => e = .returned (resN (if xs.all isAmt then topR (aboveL m s xs xs.length) else .error 2)) ∧ Below w.heap.size w w' := by
  have hd : decide ((32 : Int) < xs.length) = false := decide_eq_false hl
  have hg := h.lt (by decide)
  generalize hRR : (if xs.all isAmt then topR (aboveL m s xs xs.length) else .error 2) = R
  have HRR := Lib.hid hRR
  clear hRR
  have HV := Lib.hid hv
  obtain ⟨a, cap, rfl, hcap, hmx, hcells⟩ := hv
  have HR := Lib.hid h
  have HBd := Lib.hid hbd
  have HK : Hid (xs = [] ∨ ∃ b off, a = some ⟨b, off, none⟩ ∧ b < w.heap.size ∧ ∀ i, i < xs.length → w.cell? ⟨b, off + i, none⟩ = some (.int .i64 (xs.getD i 0))) := hcells
  have hsb : 1 ≤ s ∧ s ≤ 16 := by simpa [isScene] using hs
  have hs' : decide (1 ≤ s ∧ s ≤ 16) = true := decide_eq_true hsb
  clear h hbd hcells hs
  unfold maxLen at hmx
  go_enter Tryd.func56, Tryd.ntmps56
  go_wp2_with fail
  refine (in10_calls _ _ _ _).mono ?_
  rintro e _ ⟨rfl, rfl⟩
  rw [hs']
  clear hs'
  go_wp2_with fail
  go_loopw [9, 8] (fun i q wr => ∃ k : Nat, k ≤ xs.length ∧ i = .int .i64 k ∧ Hid (OwnI 2 w.heap.size wr q (aboveL m s xs k)) ∧ Hid (Below w.heap.size w wr) ∧ Hid ((xs.take k).all isAmt = true)) (fun i _ _ => xs.length - (intOf i).toNat)
  case atStart => exact ⟨0, Nat.zero_le _, rfl, OwnI.nil _ _ _, Below.refl _ _, rfl⟩
  case round =>
    obtain ⟨k, hk, rfl, hown, hB, hall⟩ := hrel
    by_cases hlk : k < xs.length
    · obtain ⟨xb, off, rfl, hxb, hcell⟩ := HK.out.resolve_left (by intro e; rw [e] at hlk; simp at hlk)
      have hx := (hB.out.cell (p := ⟨xb, off + k, none⟩) hxb).trans (hcell k hlk)
      have HS := Lib.hid (take_snoc hlk)
      have HX := Lib.hid (show xs.getD k 0 ∈ xs by simp [List.getD, hlk])
      have hN : Hid (aboveN m s xs k = max ((mget m (s, (k : Int) + 1)).getD 0 - xs.getD k 0) 0) := rfl
      have hgb := loss_bd HBd.out (s, (k : Int) + 1)
      have hL := (hB.out.cell (p := ⟨g, s.toNat * 33 + (k + 1), none⟩) hg).trans (HR.out.cell (s.toNat * 33 + (k + 1)) (by omega))
      have hlf := lossF_at m (s := s) (k := (k : Int) + 1) (by omega) (by omega) (by omega)
      rw [show ((k : Int) + 1).toNat = k + 1 by omega] at hlf
      rw [hlf] at hL
      clear hlf
      generalize xs.getD k 0 = x at hx hN HS HX
      generalize (mget m (s, (k : Int) + 1)).getD 0 = l at hgb hN hL
      clear hcell
      obtain ⟨al, cl, hq⟩ := hown.out.len
      rw [aboveL_len] at hq
      subst hq
      go_wp2_with fail
      refine (amount10_calls _ _).mono ?_
      rintro e _ ⟨rfl, rfl⟩
      cases hxa : isAmt x with
      | false =>
        have HRv : Hid (xs.all isAmt = false) := by
          cases h : xs.all isAmt with
          | false => rfl
          | true => have := List.all_eq_true.1 h x HX.out; rw [hxa] at this; cases this
        clear hxa
        go_wp2_with fail
        go_ret2
        exact ⟨by rw [← HRR.out, HRv.out]; rfl, hB.out⟩
      | true =>
        have HA : Hid ((xs.take (k + 1)).all isAmt = true) := by
          unfold Hid
          rw [HS.out, List.all_append, hall.out]
          simp [hxa]
        have hxb2 : 0 ≤ x ∧ x ≤ 1000000000000000 := by simpa [isAmt] using hxa
        clear hxa
        have hsz := hB.out.size
        have hkk : IntKind.i64.wrap ((k : Int) + 1) = (k : Int) + 1 := IntWalk.i64_in _ (by omega)
        have hkt : ((k : Int) + 1).toNat = k + 1 := by omega
        have hq1 : 0 ≤ s ∧ s < 17 := by omega
        have hq2 : 0 ≤ (k : Int) + 1 ∧ (k : Int) + 1 < 33 := by omega
        have hq3 : s.toNat < 17 := by omega
        have hq4 : (k : Int) + 1 < 33 := by omega
        have hsw : IntKind.i64.wrap (l - x) = l - x := IntWalk.i64_in _ (by omega)
        by_cases hgx : x < l
        · have hN2 : Hid (aboveN m s xs k = l - x) := by rw [Hid, hN.out]; omega
          have HOa : Hid (OwnI 2 w.heap.size (wr.alloc (.cells #[.int .i64 (l - x)] 2)).drew (.slice al k cl) (aboveL m s xs k)) := by
            have := (hown.out.alloc (.cells #[.int .i64 (l - x)] 2)).drew
            exact this
          have HNa := Lib.hid (cellN_new wr (l - x) 2)
          have HLk : Hid ((aboveL m s xs k).length + [l - x].length ≤ 1000000) := by unfold Hid; rw [aboveL_len]; simp; omega
          have hsa : w.heap.size ≤ (wr.alloc (.cells #[.int .i64 (l - x)] 2)).drew.heap.size := by simp; omega
          have HBa : Hid (Below w.heap.size w (wr.alloc (.cells #[.int .i64 (l - x)] 2)).drew) := (hB.out.alloc hB.out.size _).drew
          go_wp2_with fail
          go_region_law (first | (go_loud (refine step_appI (by rfl) (.tmp 28) (.tmp 44) 92 (by rfl) 2 Tryd.underlying92 infoI64 w.heap.size (.slice al k cl) (aboveL m s xs k) [l - x] (by rfl) HOa.out ⟨wr.heap.size, 0, none⟩ 1 1 (by rfl) rfl HNa.out HLk.out hsa ?_); intro v5 w5 ho5 hb5; have HO5 := Lib.hid ho5; have HB5 := Lib.hid (HBa.out.trans hb5); clear ho5 hb5))
          all_goals
            go_wp2_with fail
            go_roundw
            case rel => exact ⟨k + 1, by omega, by go_num, by rw [aboveL_snoc, hN2.out]; exact HO5, HB5, HA⟩
            case measure => simp [intOf]; omega
        · have hN2 : Hid (aboveN m s xs k = 0) := by rw [Hid, hN.out]; omega
          have hgF : (x < l) = False := eq_false hgx
          have HOa : Hid (OwnI 2 w.heap.size (wr.alloc (.cells #[.int .i64 0] 2)).drew (.slice al k cl) (aboveL m s xs k)) := by
            have := (hown.out.alloc (.cells #[.int .i64 0] 2)).drew
            exact this
          have HNa := Lib.hid (cellN_new wr 0 2)
          have HLk : Hid ((aboveL m s xs k).length + [(0 : Int)].length ≤ 1000000) := by unfold Hid; rw [aboveL_len]; simp; omega
          have hsa : w.heap.size ≤ (wr.alloc (.cells #[.int .i64 0] 2)).drew.heap.size := by simp; omega
          have HBa : Hid (Below w.heap.size w (wr.alloc (.cells #[.int .i64 0] 2)).drew) := (hB.out.alloc hB.out.size _).drew
          go_wp2_with fail
          go_region_law (first | (go_loud (refine step_appI (by rfl) (.tmp 28) (.tmp 44) 92 (by rfl) 2 Tryd.underlying92 infoI64 w.heap.size (.slice al k cl) (aboveL m s xs k) [0] (by rfl) HOa.out ⟨wr.heap.size, 0, none⟩ 1 1 (by rfl) rfl HNa.out HLk.out hsa ?_); intro v5 w5 ho5 hb5; have HO5 := Lib.hid ho5; have HB5 := Lib.hid (HBa.out.trans hb5); clear ho5 hb5))
          all_goals
            go_wp2_with fail
            go_roundw
            case rel => exact ⟨k + 1, by omega, by go_num, by rw [aboveL_snoc, hN2.out]; exact HO5, HB5, HA⟩
            case measure => simp [intOf]; omega
    · obtain rfl : k = xs.length := by omega
      rw [List.take_length] at hall
      go_wp2_with fail
      refine (topRef_calls (own_slI hown.out)).mono ?_
      rintro e _ ⟨rfl, rfl⟩
      have HR2 := HRR.out
      rw [if_pos hall.out] at HR2
      rw [HR2]
      clear hall HR2 HRR
      cases R with
      | ok n =>
        simp only [resN]
        go_wp2_with fail
        go_ret2
        exact ⟨rfl, hB.out⟩
      | error q =>
        simp only [resN]
        go_wp2_with fail
        go_ret2
        exact ⟨rfl, hB.out⟩
theorem twoRef_calls {w : World} {g : Nat} {m : LossM} (h : Arr w g 561 (lossF m)) (hbd : ∀ x ∈ m, 0 ≤ x.2 ∧ x.2 ≤ 1000000000000000)
    (s : Int) {v : Value} {xs : List Int} (hv : SlI w v xs) :
    Calls Tryd.prog 56 #[.pointer (some ⟨g, 0, none⟩), .int .i64 s, v] w fun e w' => e = .returned (resN (twoR m s xs)) ∧ Below w.heap.size w w' := by
  by_cases hl : 32 < xs.length
  · rw [show twoR m s xs = .error 4 from if_pos hl]
    obtain ⟨a, cap, rfl, _⟩ := hv
    have hd : decide ((32 : Int) < xs.length) = true := decide_eq_true (by omega)
    generalize xs.length = n at *
    clear h hbd hl
    go_enter Tryd.func56, Tryd.ntmps56
    go_wp2_with fail
    go_ret2
    exact ⟨rfl, Below.refl _ _⟩
  · cases hs : isScene s with
    | false =>
      rw [show twoR m s xs = .error 2 by simp [twoR, hl, hs]]
      obtain ⟨a, cap, rfl, _⟩ := hv
      have hd : decide ((32 : Int) < xs.length) = false := decide_eq_false (by omega)
      have hs' : decide (1 ≤ s ∧ s ≤ 16) = false := hs
      generalize xs.length = n at *
      clear h hbd hl hs
      go_enter Tryd.func56, Tryd.ntmps56
      go_wp2_with fail
      refine (in10_calls _ _ _ _).mono ?_
      rintro e _ ⟨rfl, rfl⟩
      rw [hs']
      go_wp2_with fail
      go_ret2
      exact ⟨rfl, Below.refl _ _⟩
    | true =>
      rw [show twoR m s xs = if xs.all isAmt then topR (aboveL m s xs xs.length) else .error 2 by
        simp only [twoR, hl, hs]
        cases xs.all isAmt <;> rfl]
      exact twoRef_ok h hbd s hv (by omega) hs

/-- The greatest, its scene and an error's number, as the three results. -/
def covN : Except Nat (Int × Int) → Value
  | .ok (n, s) => .tuple #[.int .i64 n, .int .i64 s, .int .i64 0]
  | .error k => .tuple #[.int .i64 0, .int .i64 0, .int .i64 (101 + (k : Int))]

set_option maxHeartbeats 1000000 in
set_option maxRecDepth 100000 in
theorem coverRef_calls {w : World} {g : Nat} {m : LossM} (h : Arr w g 561 (lossF m)) (hbd : ∀ x ∈ m, 0 ≤ x.2 ∧ x.2 ≤ 1000000000000000)
    {v : Value} {xs : List Int} (hv : SlI w v xs) :
    Calls Tryd.prog 58 #[.pointer (some ⟨g, 0, none⟩), v] w fun e w' => e = .returned (covN (coverR m xs)) ∧ Below w.heap.size w w' := by
  have hg := h.lt (by decide)
  have HV := Lib.hid hv
  have HA := Lib.hid h
  have HBd := Lib.hid hbd
  obtain ⟨a, cap, rfl, hcap, hmx, _⟩ := hv
  generalize hRR : coverR m xs = R
  have HRR := Lib.hid hRR
  clear h hbd hRR hcap hmx
  generalize hLn : xs.length = ln at *
  clear hLn
  go_enter Tryd.func58, Tryd.ntmps58
  go_wp2_with fail
  go_loopw [9, 7, 8] (fun sv bv av wr => ∃ (k : Nat) (b t : Int), k ≤ 16 ∧ sv = .int .i64 ((k : Int) + 1) ∧ bv = .int .i64 b ∧ av = .int .i64 t ∧ Hid (coverN m xs k = .ok (b, t)) ∧ Hid (Below w.heap.size w wr)) (fun sv _ _ _ => 17 - (intOf sv).toNat)
  case atStart => exact ⟨0, 0, 1, by omega, rfl, rfl, rfl, rfl, Below.refl _ _⟩
  case round =>
    obtain ⟨k, b, t, hk, rfl, rfl, rfl, hcv, hB⟩ := hrel
    by_cases hk2 : k < 16
    · have hd : decide ((k : Int) + 1 ≤ 16) = true := decide_eq_true (by omega)
      have hww : IntKind.i64.wrap ((k : Int) + 1 + 1) = (k : Int) + 1 + 1 := IntWalk.i64_in _ (by omega)
      go_wp2_with fail
      refine (twoRef_calls (HA.out.below hg hB.out) HBd.out ((k : Int) + 1) (HV.out.below hB.out)).mono ?_
      rintro e w2 ⟨rfl, hb2⟩
      have HB2 := Lib.hid (hB.out.trans (hb2.mono hB.out.size))
      clear hb2 hB
      cases hr : twoR m ((k : Int) + 1) xs with
      | ok n =>
        have HS := Lib.hid (coverN_step hcv.out hr)
        clear hr hcv
        simp only [resN]
        by_cases hbn : b < n
        · have HS2 := Lib.hid (HS.out.trans (by rw [if_pos hbn]))
          clear HS
          go_wp2_with fail
          go_roundw
          case rel => exact ⟨k + 1, n, (k : Int) + 1, by omega, by go_num, rfl, rfl, HS2.out, HB2⟩
          case measure => simp [intOf]; omega
        · have HS2 := Lib.hid (HS.out.trans (by rw [if_neg hbn]))
          clear HS
          have hbF : (b < n) = False := eq_false hbn
          go_wp2_with fail
          go_roundw
          case rel => exact ⟨k + 1, b, t, by omega, by go_num, rfl, rfl, HS2.out, HB2⟩
          case measure => simp [intOf]; omega
      | error q =>
        have HS : Hid (R = .error q) := by
          have h1 := coverN_err (coverN_bad hcv.out hr) (16 - (k + 1))
          rw [show k + 1 + (16 - (k + 1)) = 16 by omega] at h1
          exact HRR.out.symm.trans h1
        clear hr hcv
        simp only [resN]
        go_wp2_with fail
        refine bodyPost_ret (results_tmp3 rfl _ _ _) rfl ?_
        exact ⟨by rw [HS.out]; rfl, HB2.out⟩
    · obtain rfl : k = 16 := by omega
      have HS : Hid (R = .ok (b, t)) := HRR.out.symm.trans hcv.out
      clear hcv
      go_wp2_with fail
      refine bodyPost_ret (results_tmp3 rfl _ _ _) rfl ?_
      exact ⟨by rw [HS.out]; rfl, hB.out⟩
end Go.Proofs.YtehacchacgfjlaaDoor
