/- The walk of pledgelaw12.CutEnds: it returns true, and writes nothing that was there. -/
import Derived.Test.YtcfhlndnohbclaaDoorLad
namespace Go.Proofs.YtcfhlndnohbclaaDoor
open Go Go.RowKit
set_option linter.unusedSimpArgs false
set_option linter.unusedVariables false

set_option maxRecDepth 100000 in
theorem first12_calls {p : Nat → Addr} {ks : List Nat} {C : Nat} {w : World} (hE : Errs ks C p w) (hk : 2 ∈ ks) : Calls Tryd.prog 21 #[] w fun e w' => e = .returned (.bool true) ∧ Below w.heap.size w w' := by
  have HE := Lib.hid hE; clear hE
  have hC := HE.out.size
  go_enter Tryd.func21, Tryd.ntmps21
  go_wp2_with fail
  have h0 := lad_new w.heap.size w
  have HB0 : Below w.heap.size w (w.alloc (Obj.cells #[.map none, .int .i64 0] 39)) := by (repeat (first | exact Below.refl _ _ | assumption | refine Below.drew ?_ | refine below_many ?_ _ | refine Below.alloc ?_ (by first | (simp; done) | (simp; omega) | omega) _ | refine Below.setCell ?_ (by first | (simp; done) | (simp; omega) | omega) _))
  refine (lad_of (HE.out.below (HB0.mono hC)) hk h0 1 0 1 1 0 5).mono ?_
  rintro e w1 ⟨rfl, hb⟩
  rw [show ofN [] 0 1 0 1 1 0 5 = 0 by decide]
  have h1 := h0.below hb
  have HB1 := bbase HB0 hb
  clear h0 HB0 hb
  go_wp2_with fail
  refine (lad_set h1 HB1.size 1 0 7 (by decide)).mono ?_
  rintro e w2 ⟨rfl, h2, hk2⟩
  have HB2 : Below w.heap.size w w2 := HB1.trans (hk2.below HB1.size (fun k hk' hs => by omega))
  clear h1 HB1 hk2
  go_wp2_with fail
  refine (lad_of (HE.out.below (HB2.mono hC)) hk h2 1 0 1 1 0 5).mono ?_
  rintro e w3 ⟨rfl, hb⟩
  rw [show ofN (mput [] (1, 0) 7) 0 1 0 1 1 0 5 = 7 by decide]
  have HB3 := bbase HB2 hb
  clear h2 HB2 hb
  go_wp2_with fail
  go_ret
  exact ⟨rfl, HB3⟩

/-- The cuts that the loop has set after i rounds. -/
def ladM (zs : List Int) : Nat → List ((Int × Int) × Int)
  | 0 => []
  | i + 1 => mput (mput (ladM zs i) (4, (i : Int)) (zs.getD i 0 % 10001)) (1, (i : Int)) (zs.getD i 0 % 10001)
theorem ladM_get (zs : List Int) (c j : Int) : ∀ i : Nat, mget (ladM zs i) (c, j) = if (c = 4 ∨ c = 1) ∧ 0 ≤ j ∧ j < i then some (zs.getD j.toNat 0 % 10001) else none
  | 0 => by rw [if_neg (by omega)]; rfl
  | i + 1 => by
    have ih := ladM_get zs c j i
    unfold ladM
    by_cases h1 : c = 1 ∧ j = (i : Int)
    · obtain ⟨rfl, rfl⟩ := h1
      rw [mget_mput_same, if_pos ⟨.inr rfl, by omega, by omega⟩]
      simp
    · have h1' : (c, j) ≠ ((1 : Int), (i : Int)) := fun e => h1 (by simpa using e)
      rw [mget_mput_other _ _ h1']
      by_cases h2 : c = 4 ∧ j = (i : Int)
      · obtain ⟨rfl, rfl⟩ := h2
        rw [mget_mput_same, if_pos ⟨.inl rfl, by omega, by omega⟩]
        simp
      · have h2' : (c, j) ≠ ((4 : Int), (i : Int)) := fun e => h2 (by simpa using e)
        rw [mget_mput_other _ _ h2', ih]
        by_cases hc : (c = 4 ∨ c = 1) ∧ 0 ≤ j ∧ j < i
        · rw [if_pos hc, if_pos ⟨hc.1, hc.2.1, by omega⟩]
        · rw [if_neg hc, if_neg (by omega)]

/-- The least index from 5 - j on at which so many days are less than the bound; 5: none. -/
def partN (d : Int) : Nat → Int
  | 0 => 5
  | 1 => if d < 3650 then 4 else 5
  | 2 => if d < 1095 then 3 else if d < 3650 then 4 else 5
  | 3 => if d < 365 then 2 else if d < 1095 then 3 else if d < 3650 then 4 else 5
  | 4 => if d < 90 then 1 else if d < 365 then 2 else if d < 1095 then 3 else if d < 3650 then 4 else 5
  | _ => bucketN d

/-- The first part: up to the second loop. -/
theorem ends_pure (zs : List Int) (d f : Int) (hd : 0 ≤ d ∧ d < 9000) (hf : 0 ≤ f ∧ f < 10001) :
    (∀ m, ofN (ladM zs 6) f 1 0 4 m (100 + d) 100 = if 1 ≤ m ∧ m ≤ 6 then (if d = 0 then 10000 else min (zs.getD (bucketN d).toNat 0 % 10001 + (if m = 1 then 0 else f)) 10000) else 0) ∧
    ofN (ladM zs 6) f 1 0 4 1 100 101 = 10000 ∧ ofN (ladM zs 6) f 1 0 4 1 0 100 = zs.getD 5 0 % 10001 ∧ ofN (ladM zs 6) f 1 0 1 1 0 100 = zs.getD 0 0 % 10001 ∧ ofN (ladM zs 6) f 1 0 5 1 0 100 = 0 := by
  have hb : 0 ≤ bucketN d ∧ bucketN d ≤ 5 := by unfold bucketN; (repeat' split) <;> omega
  refine ⟨fun m => ?_, ?_, ?_, ?_, ?_⟩
  · unfold ofN
    by_cases hm : 1 ≤ m ∧ m ≤ 6
    · rw [if_pos (show validA 1 0 4 m (100 + d) = true from decide_eq_true (by omega)), if_pos hm]
      by_cases h0 : d = 0
      · rw [if_neg (show ¬ liveB (100 + d) 100 = true by rw [show liveB (100 + d) 100 = false from decide_eq_false (by omega)]; decide), if_pos h0]
      · rw [if_pos (show liveB (100 + d) 100 = true from decide_eq_true (by omega)), if_neg h0]
        have hl : leftN (100 + d) 100 = d := by
          unfold leftN
          rw [if_neg (by omega), if_neg (by omega)]
          unfold wrap64; omega
        have hbk : bucketA 4 (100 + d) d = bucketN d := by unfold bucketA; rw [if_neg (by omega), if_neg (by omega)]
        rw [hl, hbk, ladM_get, if_pos ⟨.inl rfl, by omega, by omega⟩]
        rfl
    · rw [if_neg (show ¬ validA 1 0 4 m (100 + d) = true by rw [show validA 1 0 4 m (100 + d) = false from decide_eq_false (by omega)]; decide), if_neg hm]
  · unfold ofN
    rw [if_pos (by decide), if_neg (by decide)]
  · unfold ofN
    rw [if_pos (by decide), if_pos (by decide), show bucketA 4 0 (leftN 0 100) = 5 by decide, ladM_get, if_pos ⟨.inl rfl, by decide, by decide⟩]
    simp; omega
  · unfold ofN
    rw [if_pos (by decide), if_pos (by decide), show bucketA 1 0 (leftN 0 100) = 0 by decide, ladM_get, if_pos ⟨.inr rfl, by decide, by decide⟩]
    simp; omega
  · unfold ofN
    rw [if_pos (by decide), if_pos (by decide), ladM_get, if_neg (by omega)]
    simp; omega

theorem partN_step (d : Int) (j : Nat) (hj : j < 5) : partN d (j + 1) = if d < bnds.getD (4 - j) 0 then 4 - (j : Int) else partN d j := by
  rcases (show j = 0 ∨ j = 1 ∨ j = 2 ∨ j = 3 ∨ j = 4 by omega) with rfl | rfl | rfl | rfl | rfl <;> simp [partN, bnds, bucketN]

set_option maxHeartbeats 4000000 in
set_option maxRecDepth 100000 in
theorem walk_CutEnds {p : Nat → Addr} {w : World} (hE : Errs [2] w.heap.size p w) (days : Int) (a : Option Addr) (len cap : Nat) (zs : List Int) (fx : Int) (h1 : -9223372036854775808 ≤ days) (h2 : days ≤ 9223372036854775807) (hz : IsRow .i64 w a len cap zs) (h3 : -9223372036854775808 ≤ fx) (h4 : fx ≤ 9223372036854775807) :
    Calls Tryd.prog 5 #[.int .i64 days, .slice a len cap, .int .i64 fx] w fun e w' => e = .returned (.bool true) ∧ Below w.heap.size w w' := by
  have HE := Lib.hid hE; clear hE
  by_cases hlen : len = 6
  · subst hlen
    obtain ⟨b, off, rfl, hb, hl, hcap, hmx, hcells, _⟩ := hz.open (by omega)
    have HC := Lib.hid hcells
    have hln : 6 ≤ zs.length := hl
    clear hz hcells hcap hl hmx
    go_enter Tryd.func5, Tryd.ntmps5
    go_wp2_with fail
    refine (first12_calls HE.out (by decide)).mono ?_
    rintro e w1 ⟨rfl, HB1⟩
    go_wp2_with fail
    refine (number_calls days 9000 (by decide) (by decide) _).mono ?_
    rintro e w2 ⟨rfl, rfl⟩
    have hd0 := Int.emod_nonneg days (show (9000 : Int) ≠ 0 by decide)
    have hd1 := Int.emod_lt_of_pos days (show (0 : Int) < 9000 by decide)
    generalize days % 9000 = d at *
    go_wp2_with fail
    refine (number_calls fx 10001 (by decide) (by decide) _).mono ?_
    rintro e w2 ⟨rfl, rfl⟩
    have hf0 := Int.emod_nonneg fx (show (10001 : Int) ≠ 0 by decide)
    have hf1 := Int.emod_lt_of_pos fx (show (0 : Int) < 10001 by decide)
    generalize fx % 10001 = f at *
    clear h1 h2 h3 h4
    go_wp2_with fail
    have hl0 := lad_new w.heap.size w1
    have HB2 : Below w.heap.size w (w1.alloc (Obj.cells #[.map none, .int .i64 0] 39)) := by have := HB1.size; (repeat (first | exact Below.refl _ _ | assumption | refine Below.drew ?_ | refine below_many ?_ _ | refine Below.alloc ?_ (by first | (simp; done) | (simp; omega) | omega) _ | refine Below.setCell ?_ (by first | (simp; done) | (simp; omega) | omega) _))
    have hs1 := HB1.size
    generalize hW : (w1.alloc (Obj.cells #[.map none, .int .i64 0] 39)) = W at *
    clear hW
    generalize w1.heap.size = lb at *
    clear HB1
    have H0 := Lib.hid hl0
    have H1 := Lib.hid HB2
    clear hl0 HB2
    go_loopw [9] (fun i wr => ∃ k : Nat, k ≤ 6 ∧ i = .int .i64 k ∧ Hid (Lad w.heap.size wr lb 0 (ladM zs k) 0) ∧ Hid (Below w.heap.size w wr)) (fun i _ => 6 - (intOf i).toNat)
    case atStart => exact ⟨0, by omega, rfl, H0, H1⟩
    case round =>
      obtain ⟨k, hk, rfl, hL, hB⟩ := hrel
      by_cases hlt : k < 6
      · have hcell := (hB.out.cell (p := ⟨b, off + k, none⟩) hb).trans (HC.out k (by omega))
        obtain ⟨z, hzz⟩ : ∃ z, z = zs.getD k 0 := ⟨_, rfl⟩
        rw [← hzz] at hcell
        have Hz := Lib.hid hzz
        clear hzz
        have e0 := Int.emod_nonneg z (show (10001 : Int) ≠ 0 by decide)
        have e1 := Int.emod_lt_of_pos z (show (0 : Int) < 10001 by decide)
        have hle := Nat.le_trans hs1 (Nat.le_of_lt hL.out.lt)
        go_wp2_with fail
        refine (number_calls z 10001 (by decide) (by decide) _).mono ?_
        rintro e w2 ⟨rfl, rfl⟩
        generalize hn : z % 10001 = n at *
        have Hn := Lib.hid hn
        clear hn hcell
        go_wp2_with fail
        refine (lad_set hL.out hle 4 k n (decide_eq_true (by omega))).mono ?_
        rintro e w2 ⟨rfl, hL2, hk2⟩
        have hB2 : Below w.heap.size w w2 := hB.out.trans (hk2.below hB.out.size (fun k hk' hs => by omega))
        have HL2 := Lib.hid hL2
        have HB2 := Lib.hid hB2
        clear hL2 hk2 hB2
        go_wp2_with fail
        refine (lad_set HL2.out (Nat.le_trans hs1 (Nat.le_of_lt HL2.out.lt)) 1 k n (decide_eq_true (by omega))).mono ?_
        rintro e w3 ⟨rfl, hL3, hk3⟩
        have hB3 : Below w.heap.size w w3 := HB2.out.trans (hk3.below HB2.out.size (fun k hk' hs => by omega))
        have HL3 : Hid (Lad w.heap.size w3 lb 0 (ladM zs (k + 1)) 0) := by
          unfold Hid ladM
          rw [← Hz.out, Hn.out]
          exact hL3
        have HB3 := Lib.hid hB3
        clear hL3 hk3 hB3
        go_wp2_with fail
        go_roundw
        case rel => exact ⟨k + 1, by omega, by go_num, HL3, HB3⟩
        case measure => simp [intOf]; omega
      · obtain rfl : k = 6 := by omega
        go_wp2_with fail
        refine (lad_fx hL.out f (decide_eq_true (by omega))).mono ?_
        rintro e w2 ⟨rfl, hL2, hk2⟩
        have hB2 : Below w.heap.size w w2 := hB.out.trans (hk2.below hB.out.size (fun k hk' hs => by omega))
        have HL2 := Lib.hid hL2
        have HB2 := Lib.hid hB2
        clear hL2 hk2 hB2 hL hB
        go_wp2_with fail
        have hB3 : Below w.heap.size w (w2.alloc (Obj.cells #[.int .i64 30, .int .i64 90, .int .i64 365, .int .i64 1095, .int .i64 3650] 3)) := by have := HB2.out.size; have := HB2.out; (repeat (first | exact Below.refl _ _ | assumption | refine Below.drew ?_ | refine below_many ?_ _ | refine Below.alloc ?_ (by first | (simp; done) | (simp; omega) | omega) _ | refine Below.setCell ?_ (by first | (simp; done) | (simp; omega) | omega) _))
        have HL3 := Lib.hid (HL2.out.below ((Below.refl _ w2).alloc (Nat.le_refl _) (Obj.cells #[.int .i64 30, .int .i64 90, .int .i64 365, .int .i64 1095, .int .i64 3650] 3)))
        have HB4 := Lib.hid hB3
        have HL4 := HL3
        clear HB2 HL2 hB3 HL3
        go_loop [13, 11] (fun i at_ => ∃ (j : Nat) (x : Int), j ≤ 5 ∧ x = 4 - (j : Int) ∧ i = .int .i64 x ∧ at_ = .int .i64 (partN d j)) (fun i _ => (1 + intOf i).toNat)
        case atStart => exact ⟨0, 4, by omega, by omega, rfl, rfl⟩
        case round =>
          obtain ⟨j, x, hj, hx, rfl, rfl⟩ := hrel
          rcases (show j = 0 ∨ j = 1 ∨ j = 2 ∨ j = 3 ∨ j = 4 ∨ j = 5 by omega) with rfl | rfl | rfl | rfl | rfl | rfl
          · obtain rfl : x = 4 := by omega
            clear hx
            by_cases hd : d < 3650
            · have hp : partN d 1 = 4 := by simp [partN, bucketN, hd]
              have HP := Lib.hid hp
              clear hp
              generalize partN d 0 = q at *
              go_wp2_with fail
              go_round
              case rel => exact ⟨1, 3, by omega, by omega, by go_num, by rw [HP.out]⟩
              case measure => simp [intOf]
            · have hp : partN d 1 = partN d 0 := by simp [partN, bucketN, hd]
              have HP := Lib.hid hp
              clear hp
              go_wp2_with fail
              go_round
              case rel => exact ⟨1, 3, by omega, by omega, by go_num, by rw [HP.out]⟩
              case measure => simp [intOf]
          · obtain rfl : x = 3 := by omega
            clear hx
            by_cases hd : d < 1095
            · have hp : partN d 2 = 3 := by simp [partN, bucketN, hd]
              have HP := Lib.hid hp
              clear hp
              generalize partN d 1 = q at *
              go_wp2_with fail
              go_round
              case rel => exact ⟨2, 2, by omega, by omega, by go_num, by rw [HP.out]⟩
              case measure => simp [intOf]
            · have hp : partN d 2 = partN d 1 := by simp [partN, bucketN, hd]
              have HP := Lib.hid hp
              clear hp
              go_wp2_with fail
              go_round
              case rel => exact ⟨2, 2, by omega, by omega, by go_num, by rw [HP.out]⟩
              case measure => simp [intOf]
          · obtain rfl : x = 2 := by omega
            clear hx
            by_cases hd : d < 365
            · have hp : partN d 3 = 2 := by simp [partN, bucketN, hd]
              have HP := Lib.hid hp
              clear hp
              generalize partN d 2 = q at *
              go_wp2_with fail
              go_round
              case rel => exact ⟨3, 1, by omega, by omega, by go_num, by rw [HP.out]⟩
              case measure => simp [intOf]
            · have hp : partN d 3 = partN d 2 := by simp [partN, bucketN, hd]
              have HP := Lib.hid hp
              clear hp
              go_wp2_with fail
              go_round
              case rel => exact ⟨3, 1, by omega, by omega, by go_num, by rw [HP.out]⟩
              case measure => simp [intOf]
          · obtain rfl : x = 1 := by omega
            clear hx
            by_cases hd : d < 90
            · have hp : partN d 4 = 1 := by simp [partN, bucketN, hd]
              have HP := Lib.hid hp
              clear hp
              generalize partN d 3 = q at *
              go_wp2_with fail
              go_round
              case rel => exact ⟨4, 0, by omega, by omega, by go_num, by rw [HP.out]⟩
              case measure => simp [intOf]
            · have hp : partN d 4 = partN d 3 := by simp [partN, bucketN, hd]
              have HP := Lib.hid hp
              clear hp
              go_wp2_with fail
              go_round
              case rel => exact ⟨4, 0, by omega, by omega, by go_num, by rw [HP.out]⟩
              case measure => simp [intOf]
          · obtain rfl : x = 0 := by omega
            clear hx
            by_cases hd : d < 30
            · have hp : partN d 5 = 0 := by simp [partN, bucketN, hd]
              have HP := Lib.hid hp
              clear hp
              generalize partN d 4 = q at *
              go_wp2_with fail
              go_round
              case rel => exact ⟨5, -1, by omega, by omega, by go_num, by rw [HP.out]⟩
              case measure => simp [intOf]
            · have hp : partN d 5 = partN d 4 := by simp [partN, bucketN, hd]
              have HP := Lib.hid hp
              clear hp
              go_wp2_with fail
              go_round
              case rel => exact ⟨5, -1, by omega, by omega, by go_num, by rw [HP.out]⟩
              case measure => simp [intOf]
          · obtain rfl : x = -1 := by omega
            clear hx
            obtain ⟨pA, p2, p3, p4, p5⟩ := ends_pure zs d f ⟨hd0, hd1⟩ ⟨hf0, hf1⟩
            have hq : ∃ q : Nat, bucketN d = q ∧ q ≤ 5 := by
              have : 0 ≤ bucketN d ∧ bucketN d ≤ 5 := by unfold bucketN; (repeat' split) <;> omega
              exact ⟨(bucketN d).toNat, by omega, by omega⟩
            obtain ⟨q, hq, hq5⟩ := hq
            have hq2 : zs.getD (bucketN d).toNat 0 = zs.getD q 0 := by rw [hq]; rfl
            rw [show partN d 5 = (q : Int) from hq]
            have hcell := (HB4.out.cell (p := ⟨b, off + q, none⟩) hb).trans (HC.out q (by omega))
            obtain ⟨z, hzz⟩ : ∃ z, z = zs.getD q 0 := ⟨_, rfl⟩
            rw [← hzz] at hcell hq2
            have e0 := Int.emod_nonneg z (show (10001 : Int) ≠ 0 by decide)
            have e1 := Int.emod_lt_of_pos z (show (0 : Int) < 10001 by decide)
            have Hq2 := Lib.hid hq2
            have PA := Lib.hid pA
            have P2 := Lib.hid p2
            have P3 := Lib.hid p3
            have P4 := Lib.hid p4
            have P5 := Lib.hid p5
            clear hzz hq hq2 pA p2 p3 p4 p5
            go_wp2_with fail
            refine (number_calls z 10001 (by decide) (by decide) _).mono ?_
            rintro e w3 ⟨rfl, rfl⟩
            generalize hn : z % 10001 = n at *
            have Hn := Lib.hid hn
            have pA := PA.out
            have hq2 := Hq2.out
            clear hn hcell
            by_cases hd : d = 0
            · have k0 : (d == 0) = true := by simpa using hd
              have hN : ofN (ladM zs 6) f 1 0 4 1 (100 + d) 100 = 10000 := by rw [pA]; simp [hd]
              have hF : ofN (ladM zs 6) f 1 0 4 2 (100 + d) 100 = 10000 := by rw [pA]; simp [hd]
              have HN := Lib.hid hN
              have HF := Lib.hid hF
              clear hN hF hd pA hq2
              go_wp2_with fail
              refine (lad_of (HE.out.below HB4.out) (by decide) HL4.out 1 0 4 1 (100 + d) 100).mono ?_
              rintro e v0 ⟨rfl, hb0⟩
              rw [HN.out]
              have HL50 := Lib.hid (HL4.out.below hb0)
              have HB50 := Lib.hid (bbase HB4.out hb0)
              clear hb0
              go_wp2_with fail
              refine (lad_of (HE.out.below HB50.out) (by decide) HL50.out 1 0 4 2 (100 + d) 100).mono ?_
              rintro e v1 ⟨rfl, hb1⟩
              rw [HF.out]
              have HL51 := Lib.hid (HL50.out.below hb1)
              have HB51 := Lib.hid (bbase HB50.out hb1)
              clear hb1
              go_wp2_with fail
              refine (lad_of (HE.out.below HB51.out) (by decide) HL51.out 1 0 4 1 100 101).mono ?_
              rintro e v2 ⟨rfl, hb2⟩
              rw [P2.out]
              have HL52 := Lib.hid (HL51.out.below hb2)
              have HB52 := Lib.hid (bbase HB51.out hb2)
              clear hb2
              go_wp2_with fail
              refine (lad_of (HE.out.below HB52.out) (by decide) HL52.out 1 0 4 1 0 100).mono ?_
              rintro e v3 ⟨rfl, hb3⟩
              rw [P3.out]
              have HL53 := Lib.hid (HL52.out.below hb3)
              have HB53 := Lib.hid (bbase HB52.out hb3)
              clear hb3
              generalize hn5 : zs.getD 5 0 % 10001 = n5
              have Hn5 := Lib.hid hn5
              clear hn5
              go_wp2_with fail
              refine (lad_of (HE.out.below HB53.out) (by decide) HL53.out 1 0 1 1 0 100).mono ?_
              rintro e v4 ⟨rfl, hb4⟩
              rw [P4.out]
              have HL54 := Lib.hid (HL53.out.below hb4)
              have HB54 := Lib.hid (bbase HB53.out hb4)
              clear hb4
              generalize hn6 : zs.getD 0 0 % 10001 = n6
              have Hn6 := Lib.hid hn6
              clear hn6
              go_wp2_with fail
              refine (lad_of (HE.out.below HB54.out) (by decide) HL54.out 1 0 5 1 0 100).mono ?_
              rintro e v5 ⟨rfl, hb5⟩
              rw [P5.out]
              have HL55 := Lib.hid (HL54.out.below hb5)
              have HB55 := Lib.hid (bbase HB54.out hb5)
              clear hb5
              have c5 := (HB55.out.cell (p := ⟨b, off + 5, none⟩) hb).trans (HC.out 5 (by omega))
              have c0 := (HB55.out.cell (p := ⟨b, off + 0, none⟩) hb).trans (HC.out 0 (by omega))
              rw [Nat.add_zero] at c0
              generalize zs.getD 5 0 = z5 at c5 Hn5
              generalize zs.getD 0 0 = z6 at c0 Hn6
              go_wp2_with fail
              refine (number_calls z5 10001 (by decide) (by decide) _).mono ?_
              rintro e v6 ⟨rfl, rfl⟩
              rw [Hn5.out]
              go_wp2_with fail
              refine (number_calls z6 10001 (by decide) (by decide) _).mono ?_
              rintro e v6 ⟨rfl, rfl⟩
              rw [Hn6.out]
              go_wp2_with fail
              go_ret
              exact ⟨rfl, HB55.out⟩
            · by_cases hmin : n + f < 10000
              · have k0 : (d == 0) = false := by simpa using hd
                have hN : ofN (ladM zs 6) f 1 0 4 1 (100 + d) 100 = n := by rw [pA]; simp only [hd, if_false]; rw [hq2, Hn.out]; simp; omega
                have hF : ofN (ladM zs 6) f 1 0 4 2 (100 + d) 100 = n + f := by rw [pA]; simp only [hd, if_false]; rw [hq2, Hn.out]; simp; omega
                have HN := Lib.hid hN
                have HF := Lib.hid hF
                clear hN hF hd pA hq2
                go_wp2_with fail
                refine (lad_of (HE.out.below HB4.out) (by decide) HL4.out 1 0 4 1 (100 + d) 100).mono ?_
                rintro e v0 ⟨rfl, hb0⟩
                rw [HN.out]
                have HL50 := Lib.hid (HL4.out.below hb0)
                have HB50 := Lib.hid (bbase HB4.out hb0)
                clear hb0
                go_wp2_with fail
                refine (lad_of (HE.out.below HB50.out) (by decide) HL50.out 1 0 4 2 (100 + d) 100).mono ?_
                rintro e v1 ⟨rfl, hb1⟩
                rw [HF.out]
                have HL51 := Lib.hid (HL50.out.below hb1)
                have HB51 := Lib.hid (bbase HB50.out hb1)
                clear hb1
                go_wp2_with fail
                refine (lad_of (HE.out.below HB51.out) (by decide) HL51.out 1 0 4 1 100 101).mono ?_
                rintro e v2 ⟨rfl, hb2⟩
                rw [P2.out]
                have HL52 := Lib.hid (HL51.out.below hb2)
                have HB52 := Lib.hid (bbase HB51.out hb2)
                clear hb2
                go_wp2_with fail
                refine (lad_of (HE.out.below HB52.out) (by decide) HL52.out 1 0 4 1 0 100).mono ?_
                rintro e v3 ⟨rfl, hb3⟩
                rw [P3.out]
                have HL53 := Lib.hid (HL52.out.below hb3)
                have HB53 := Lib.hid (bbase HB52.out hb3)
                clear hb3
                generalize hn5 : zs.getD 5 0 % 10001 = n5
                have Hn5 := Lib.hid hn5
                clear hn5
                go_wp2_with fail
                refine (lad_of (HE.out.below HB53.out) (by decide) HL53.out 1 0 1 1 0 100).mono ?_
                rintro e v4 ⟨rfl, hb4⟩
                rw [P4.out]
                have HL54 := Lib.hid (HL53.out.below hb4)
                have HB54 := Lib.hid (bbase HB53.out hb4)
                clear hb4
                generalize hn6 : zs.getD 0 0 % 10001 = n6
                have Hn6 := Lib.hid hn6
                clear hn6
                go_wp2_with fail
                refine (lad_of (HE.out.below HB54.out) (by decide) HL54.out 1 0 5 1 0 100).mono ?_
                rintro e v5 ⟨rfl, hb5⟩
                rw [P5.out]
                have HL55 := Lib.hid (HL54.out.below hb5)
                have HB55 := Lib.hid (bbase HB54.out hb5)
                clear hb5
                have c5 := (HB55.out.cell (p := ⟨b, off + 5, none⟩) hb).trans (HC.out 5 (by omega))
                have c0 := (HB55.out.cell (p := ⟨b, off + 0, none⟩) hb).trans (HC.out 0 (by omega))
                rw [Nat.add_zero] at c0
                generalize zs.getD 5 0 = z5 at c5 Hn5
                generalize zs.getD 0 0 = z6 at c0 Hn6
                go_wp2_with fail
                refine (number_calls z5 10001 (by decide) (by decide) _).mono ?_
                rintro e v6 ⟨rfl, rfl⟩
                rw [Hn5.out]
                go_wp2_with fail
                refine (number_calls z6 10001 (by decide) (by decide) _).mono ?_
                rintro e v6 ⟨rfl, rfl⟩
                rw [Hn6.out]
                go_wp2_with fail
                go_ret
                exact ⟨rfl, HB55.out⟩
              · have k0 : (d == 0) = false := by simpa using hd
                have hN : ofN (ladM zs 6) f 1 0 4 1 (100 + d) 100 = n := by rw [pA]; simp only [hd, if_false]; rw [hq2, Hn.out]; simp; omega
                have hF : ofN (ladM zs 6) f 1 0 4 2 (100 + d) 100 = 10000 := by rw [pA]; simp only [hd, if_false]; rw [hq2, Hn.out]; simp; omega
                have hmin' : 10000 ≤ n + f := by omega
                clear hmin
                have HN := Lib.hid hN
                have HF := Lib.hid hF
                clear hN hF hd pA hq2
                go_wp2_with fail
                refine (lad_of (HE.out.below HB4.out) (by decide) HL4.out 1 0 4 1 (100 + d) 100).mono ?_
                rintro e v0 ⟨rfl, hb0⟩
                rw [HN.out]
                have HL50 := Lib.hid (HL4.out.below hb0)
                have HB50 := Lib.hid (bbase HB4.out hb0)
                clear hb0
                go_wp2_with fail
                refine (lad_of (HE.out.below HB50.out) (by decide) HL50.out 1 0 4 2 (100 + d) 100).mono ?_
                rintro e v1 ⟨rfl, hb1⟩
                rw [HF.out]
                have HL51 := Lib.hid (HL50.out.below hb1)
                have HB51 := Lib.hid (bbase HB50.out hb1)
                clear hb1
                go_wp2_with fail
                refine (lad_of (HE.out.below HB51.out) (by decide) HL51.out 1 0 4 1 100 101).mono ?_
                rintro e v2 ⟨rfl, hb2⟩
                rw [P2.out]
                have HL52 := Lib.hid (HL51.out.below hb2)
                have HB52 := Lib.hid (bbase HB51.out hb2)
                clear hb2
                go_wp2_with fail
                refine (lad_of (HE.out.below HB52.out) (by decide) HL52.out 1 0 4 1 0 100).mono ?_
                rintro e v3 ⟨rfl, hb3⟩
                rw [P3.out]
                have HL53 := Lib.hid (HL52.out.below hb3)
                have HB53 := Lib.hid (bbase HB52.out hb3)
                clear hb3
                generalize hn5 : zs.getD 5 0 % 10001 = n5
                have Hn5 := Lib.hid hn5
                clear hn5
                go_wp2_with fail
                refine (lad_of (HE.out.below HB53.out) (by decide) HL53.out 1 0 1 1 0 100).mono ?_
                rintro e v4 ⟨rfl, hb4⟩
                rw [P4.out]
                have HL54 := Lib.hid (HL53.out.below hb4)
                have HB54 := Lib.hid (bbase HB53.out hb4)
                clear hb4
                generalize hn6 : zs.getD 0 0 % 10001 = n6
                have Hn6 := Lib.hid hn6
                clear hn6
                go_wp2_with fail
                refine (lad_of (HE.out.below HB54.out) (by decide) HL54.out 1 0 5 1 0 100).mono ?_
                rintro e v5 ⟨rfl, hb5⟩
                rw [P5.out]
                have HL55 := Lib.hid (HL54.out.below hb5)
                have HB55 := Lib.hid (bbase HB54.out hb5)
                clear hb5
                have c5 := (HB55.out.cell (p := ⟨b, off + 5, none⟩) hb).trans (HC.out 5 (by omega))
                have c0 := (HB55.out.cell (p := ⟨b, off + 0, none⟩) hb).trans (HC.out 0 (by omega))
                rw [Nat.add_zero] at c0
                generalize zs.getD 5 0 = z5 at c5 Hn5
                generalize zs.getD 0 0 = z6 at c0 Hn6
                go_wp2_with fail
                refine (number_calls z5 10001 (by decide) (by decide) _).mono ?_
                rintro e v6 ⟨rfl, rfl⟩
                rw [Hn5.out]
                go_wp2_with fail
                refine (number_calls z6 10001 (by decide) (by decide) _).mono ?_
                rintro e v6 ⟨rfl, rfl⟩
                rw [Hn6.out]
                go_wp2_with fail
                go_ret
                exact ⟨rfl, HB55.out⟩
  · have hne : ((len : Int) != 6) = true := by simp; omega
    go_enter Tryd.func5, Tryd.ntmps5
    go_wp2_with fail
    refine (first12_calls HE.out (by decide)).mono ?_
    rintro e w1 ⟨rfl, HB1⟩
    go_wp2_with fail
    go_ret
    exact ⟨rfl, HB1⟩

end Go.Proofs.YtcfhlndnohbclaaDoor
