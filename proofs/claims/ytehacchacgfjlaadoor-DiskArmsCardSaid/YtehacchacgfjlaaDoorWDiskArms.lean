/- The walk of pledgelaw5.DiskArms: it returns true, and writes nothing that was there. -/
import Derived.Test.YtehacchacgfjlaaDoorDiskD
namespace Go.Proofs.YtehacchacgfjlaaDoor
open Go.Maps
open Go Go.RowKit
set_option linter.unusedSimpArgs false
set_option linter.unusedVariables false

/-- The fuse, and whether the power is gone, ahead of call k. -/
def armF (n k : Nat) : Int := if k ≤ n then (n : Int) - k + 1 else 0
def armD (n k : Nat) : Bool := decide (1 ≤ n) && decide (n < k)
theorem arm_fine (n k : Nat) (h0 : 1 ≤ k) (h : n = 0 ∨ k < n) : goneD (armF n k) (armD n k) = false ∧ goneF (armF n k) (armD n k) = armF n (k + 1) ∧ armD n (k + 1) = false := by
  rcases h with rfl | h
  · have e1 : armF 0 k = 0 := by unfold armF; rw [if_neg (by omega)]
    have e2 : armF 0 (k + 1) = 0 := by unfold armF; rw [if_neg (by omega)]
    rw [e1, e2]; exact ⟨rfl, rfl, rfl⟩
  · have e1 : armF n k = (n : Int) - k + 1 := by unfold armF; rw [if_pos (by omega)]
    have e2 : armF n (k + 1) = (n : Int) - k := by unfold armF; rw [if_pos (by omega)]; omega
    have e3 : armD n k = false := by unfold armD; simp; omega
    have e4 : armD n (k + 1) = false := by unfold armD; simp; omega
    rw [e1, e2, e3, e4]
    refine ⟨?_, ?_, rfl⟩
    · unfold goneD; rw [if_pos ⟨rfl, by omega⟩]; simp; omega
    · unfold goneF; rw [if_pos ⟨rfl, by omega⟩]; omega
theorem arm_gone (n k : Nat) (h : 1 ≤ n ∧ n ≤ k) : goneD (armF n k) (armD n k) = true ∧ goneF (armF n k) (armD n k) = armF n (k + 1) ∧ armD n (k + 1) = true := by
  have e2 : armF n (k + 1) = 0 := by unfold armF; rw [if_neg (by omega)]
  have e4 : armD n (k + 1) = true := by unfold armD; simp; omega
  rw [e2, e4]
  by_cases hk : k = n
  · subst hk
    have e1 : armF k k = 1 := by unfold armF; rw [if_pos (by omega)]; omega
    have e3 : armD k k = false := by unfold armD; simp
    rw [e1, e3]; exact ⟨rfl, rfl, rfl⟩
  · have e1 : armF n k = 0 := by unfold armF; rw [if_neg (by omega)]
    have e3 : armD n k = true := by unfold armD; simp; omega
    rw [e1, e3]; exact ⟨rfl, rfl, rfl⟩
theorem armF_le (n k : Nat) (h : n < 20) : armF n k ≤ 4611686018427387904 := by unfold armF; split <;> omega
/-- What holds ahead of call k. -/
def ArmSt (lo B : Nat) (w0 wq : World) (d fb n k : Nat) : Prop :=
  ∃ pb f P calls, DA lo wq d fb pb 40 f P calls (armF n k) (armD n k) ∧ 0 ≤ calls ∧ calls ≤ k ∧ Below B w0 wq
set_option maxHeartbeats 8000000 in
set_option maxRecDepth 100000 in
theorem walk_DiskArms {p : Nat → Addr} {w : World} (hE : Errs (List.range 21) w.heap.size p w) (n fl : Int) (h1 : -9223372036854775808 ≤ n) (h2 : n ≤ 9223372036854775807) (h3 : -9223372036854775808 ≤ fl) (h4 : fl ≤ 9223372036854775807) :
    Calls Tryd.prog 5 #[.int .i64 n, .int .i64 fl] w fun e w' => e = .returned (.bool true) ∧ Below w.heap.size w w' := by
  have HE := Lib.hid hE
  clear hE
  go_enter Tryd.func5, Tryd.ntmps5
  go_wp2_with fail
  refine (first5_calls _).mono ?_
  rintro e w1 ⟨rfl, hb1⟩
  have HB1 := Lib.hid hb1
  have hs1 := hb1.size
  clear hb1
  go_wp2_with fail
  refine (number_calls n 20 (by decide) (by decide) _).mono ?_
  rintro e w2 ⟨rfl, rfl⟩
  have hn0 := Int.emod_nonneg n (show (20 : Int) ≠ 0 by decide)
  have hn1 := Int.emod_lt_of_pos n (show (0 : Int) < 20 by decide)
  obtain ⟨m, hm⟩ : ∃ m : Nat, n % 20 = (m : Int) := ⟨(n % 20).toNat, by omega⟩
  rw [hm] at hn0 hn1 ⊢
  clear hm h1 h2
  go_wp2_with fail
  refine (number_calls fl 5 (by decide) (by decide) _).mono ?_
  rintro e w2 ⟨rfl, rfl⟩
  have hf0 := Int.emod_nonneg fl (show (5 : Int) ≠ 0 by decide)
  have hf1 := Int.emod_lt_of_pos fl (show (0 : Int) < 5 by decide)
  obtain ⟨q, hq⟩ : ∃ q : Nat, fl % 5 = (q : Int) := ⟨(fl % 5).toNat, by omega⟩
  rw [hq] at hf0 hf1 ⊢
  clear hq h3 h4
  go_wp2_with fail
  refine (da_new 40 (by decide) (by decide) w1).mono ?_
  rintro e w3 ⟨rfl, hD, hb⟩
  have HD3 := Lib.hid hD
  have HB3 : Hid (Below w.heap.size w w3) := HB1.out.trans (hb.mono hs1)
  have hd3 := hD.lt.1
  clear hD hb
  go_wp2_with fail
  refine (da_arm HD3.out (m : Int)).mono ?_
  rintro e w4 ⟨rfl, hD, hk⟩
  rw [if_neg (by omega)] at hD
  have HS4 : Hid (ArmSt w1.heap.size w.heap.size w w4 (w1.heap.size + 2) w1.heap.size m 1) := by
    refine ⟨w1.heap.size + 1, zeroS, [], 0, ?_, Int.le_refl 0, by decide, HB3.out.trans ((HD3.out.out hk (by omega) (fun z hz => .inl hz)).mono hs1)⟩
    have e1 : armF m 1 = m := by unfold armF; split <;> omega
    have e2 : armD m 1 = false := by unfold armD; simp; omega
    rw [e1, e2]; exact hD
  clear hD hk HD3 HB3
  obtain ⟨d, hd⟩ : ∃ d, d = w1.heap.size + 2 := ⟨_, rfl⟩
  rw [← hd] at HS4 ⊢
  have hdl : w.heap.size ≤ d ∧ w1.heap.size ≤ d := by omega
  clear hd hd3
  go_wp2_with fail
  go_loopw [8] (fun i wq => ∃ k : Nat, 1 ≤ k ∧ k ≤ 31 ∧ i = .int .i64 k ∧ Hid (ArmSt w1.heap.size w.heap.size w wq d w1.heap.size m k)) (fun i _ => 40 - (intOf i).toNat)
  case atStart => exact ⟨1, by decide, by decide, rfl, HS4⟩
  case round =>
    obtain ⟨k, hk0, hk1, rfl, hS⟩ := hrel
    obtain ⟨pb, f, P, calls, hD, hc0, hc1, hB⟩ := hS.out
    have hlt := hD.lt
    have hBs := hB.size
    have hlow := hD.low
    by_cases hk2 : k ≤ 30
    · have hkc : ((k : Int) == (m : Int)) = ((k : Int) == (m : Int)) := rfl
      clear hkc
      have HD := Lib.hid hD
      have HB := Lib.hid hB
      clear hD hB hS
      have hr1 : 0 ≤ (k : Int) % ((q : Int) + 1) := Int.emod_nonneg _ (by omega)
      have hr2 : (k : Int) % ((q : Int) + 1) < (q : Int) + 1 := Int.emod_lt_of_pos _ (by omega)
      by_cases hm0 : m = 0
      · have hd1 : decide (m < 1) = true := decide_eq_true (by omega)
        have hd2 : decide ((m : Int) < 1) = true := decide_eq_true (by omega)
        have hA := arm_fine m k hk0 (.inl hm0)
        have HA := Lib.hid hA
        clear hA
        clear hm0
        by_cases hz : (k : Int) % ((q : Int) + 1) = 0
        · go_wp2_with fail
          refine (da_flush HD.out (by decide) (armF_le m k (by omega)) HA.out.1 (by omega) (by omega)).mono ?_
          rintro e w5 ⟨rfl, pb', hD5, hp5, hk5⟩
          have HS5 : Hid (ArmSt w1.heap.size w.heap.size w w5 d w1.heap.size m (k + 1)) := by
            have hD5' := hD5
            rw [HA.out.2.1, ← HA.out.2.2] at hD5'
            exact ⟨_, _, _, _, hD5', by omega, by omega, HB.out.trans ((HD.out.out hk5 (by omega) (fun z hz => hz.elim .inl (fun h => .inr (.inl h)))).mono hs1)⟩
          have HD5 := Lib.hid hD5
          clear hD5 hk5 HD HB hz
          go_wp2_with fail
          refine (da_down HD5.out).mono ?_
          rintro e w6 ⟨rfl, rfl⟩
          go_wp2_with fail
          go_roundw
          case rel => exact ⟨k + 1, by omega, by omega, by go_num, HS5⟩
          case measure => simp [intOf]; omega
        · have hz' : ((k : Int) % ((q : Int) + 1) == 0) = false := by simpa using hz
          go_wp2_with fail
          refine (whole_calls _ wr).mono ?_
          rintro e w4 ⟨rfl, hR4, hb4⟩
          have HD4 := Lib.hid (HD.out.below hb4)
          have HR4 := Lib.hid (rowIs_rd hR4)
          have HB4 : Hid (Below w.heap.size w w4) := HB.out.trans (hb4.mono hBs)
          have hs4 := hb4.size
          clear hR4 hb4
          go_wp2_with fail
          refine (da_write HD4.out (by decide) (armF_le m k (by omega)) HA.out.1 (k : Int) (by omega) (by omega) (by omega) HR4.out (by simp) (by intro g hg; simp only [Value.ownBlock, Option.some.injEq] at hg; omega)).mono ?_
          rintro e w5 ⟨rfl, hD5, hk5⟩
          have HS5 : Hid (ArmSt w1.heap.size w.heap.size w w5 d w1.heap.size m (k + 1)) := by
            have hD5' := hD5
            rw [HA.out.2.1, ← HA.out.2.2] at hD5'
            exact ⟨_, _, _, _, hD5', by omega, by omega, HB4.out.trans ((HD4.out.out hk5 (by omega) (fun z hz => hz.elim .inl (fun h => .inr (.inr h)))).mono hs1)⟩
          have HD5 := Lib.hid hD5
          clear hD5 hk5 HD HB HD4 HB4 HR4 hz hz'
          go_wp2_with fail
          refine (da_down HD5.out).mono ?_
          rintro e w6 ⟨rfl, rfl⟩
          go_wp2_with fail
          go_roundw
          case rel => exact ⟨k + 1, by omega, by omega, by go_num, HS5⟩
          case measure => simp [intOf]; omega
      · by_cases hkm : k < m
        · have hm1 : ¬ m < 1 := by omega
          have hA := arm_fine m k hk0 (.inr hkm)
          have HA := Lib.hid hA
          clear hA
          have hd1 : decide (m < 1) = false := decide_eq_false (by omega)
          have hd2 : decide ((m : Int) < 1) = false := decide_eq_false (by omega)
          by_cases hz : (k : Int) % ((q : Int) + 1) = 0
          · go_wp2_with fail
            refine (da_flush HD.out (by decide) (armF_le m k (by omega)) HA.out.1 (by omega) (by omega)).mono ?_
            rintro e w5 ⟨rfl, pb', hD5, hp5, hk5⟩
            have HS5 : Hid (ArmSt w1.heap.size w.heap.size w w5 d w1.heap.size m (k + 1)) := by
              have hD5' := hD5
              rw [HA.out.2.1, ← HA.out.2.2] at hD5'
              exact ⟨_, _, _, _, hD5', by omega, by omega, HB.out.trans ((HD.out.out hk5 (by omega) (fun z hz => hz.elim .inl (fun h => .inr (.inl h)))).mono hs1)⟩
            have HD5 := Lib.hid hD5
            clear hD5 hk5 HD HB hz
            go_wp2_with fail
            refine (da_down HD5.out).mono ?_
            rintro e w6 ⟨rfl, rfl⟩
            go_wp2_with fail
            go_roundw
            case rel => exact ⟨k + 1, by omega, by omega, by go_num, HS5⟩
            case measure => simp [intOf]; omega
          · have hz' : ((k : Int) % ((q : Int) + 1) == 0) = false := by simpa using hz
            go_wp2_with fail
            refine (whole_calls _ wr).mono ?_
            rintro e w4 ⟨rfl, hR4, hb4⟩
            have HD4 := Lib.hid (HD.out.below hb4)
            have HR4 := Lib.hid (rowIs_rd hR4)
            have HB4 : Hid (Below w.heap.size w w4) := HB.out.trans (hb4.mono hBs)
            have hs4 := hb4.size
            clear hR4 hb4
            go_wp2_with fail
            refine (da_write HD4.out (by decide) (armF_le m k (by omega)) HA.out.1 (k : Int) (by omega) (by omega) (by omega) HR4.out (by simp) (by intro g hg; simp only [Value.ownBlock, Option.some.injEq] at hg; omega)).mono ?_
            rintro e w5 ⟨rfl, hD5, hk5⟩
            have HS5 : Hid (ArmSt w1.heap.size w.heap.size w w5 d w1.heap.size m (k + 1)) := by
              have hD5' := hD5
              rw [HA.out.2.1, ← HA.out.2.2] at hD5'
              exact ⟨_, _, _, _, hD5', by omega, by omega, HB4.out.trans ((HD4.out.out hk5 (by omega) (fun z hz => hz.elim .inl (fun h => .inr (.inr h)))).mono hs1)⟩
            have HD5 := Lib.hid hD5
            clear hD5 hk5 HD HB HD4 HB4 HR4 hz hz'
            go_wp2_with fail
            refine (da_down HD5.out).mono ?_
            rintro e w6 ⟨rfl, rfl⟩
            go_wp2_with fail
            go_roundw
            case rel => exact ⟨k + 1, by omega, by omega, by go_num, HS5⟩
            case measure => simp [intOf]; omega
        · skip
          have hA := arm_gone m k ⟨by omega, by omega⟩
          have HA := Lib.hid hA
          clear hA
          have hd1 : decide (m < 1) = false := decide_eq_false (by omega)
          have hd2 : decide ((m : Int) < 1) = false := decide_eq_false (by omega)
          have hd3 : decide (k < m) = false := decide_eq_false (by omega)
          by_cases hz : (k : Int) % ((q : Int) + 1) = 0
          · go_wp2_with fail
            refine (da_flush_gone (HE.out.below HB.out) (by decide) HD.out hs1 (armF_le m k (by omega)) HA.out.1).mono ?_
            rintro e w5 ⟨rfl, hD5, hk5⟩
            rw [show ev p 8 = Value.iface 236 (.pointer (some (p 8))) from rfl]
            have HB5 : Hid (Below w.heap.size w w5) := HB.out.trans ((HD.out.out hk5 (by omega) (fun z hz => .inl hz)).mono hs1)
            have hs5 := hk5.size
            have HD5 := Lib.hid hD5
            clear hD5 hk5 HD HB hz
            go_wp2_with fail
            refine (is_ev (HE.out.below HB5.out) (k := 8) (by decide) _).mono ?_
            rintro e w6 ⟨rfl, hb6⟩
            have HD6 := Lib.hid (HD5.out.below hb6)
            have HS6 : Hid (ArmSt w1.heap.size w.heap.size w w6 d w1.heap.size m (k + 1)) := by
              have hD6' := HD6.out
              rw [HA.out.2.1, ← HA.out.2.2] at hD6'
              exact ⟨_, _, _, _, hD6', by omega, by omega, HB5.out.trans (hb6.mono HB5.out.size)⟩
            clear hb6 HD5
            go_wp2_with fail
            refine (da_down HD6.out).mono ?_
            rintro e w7 ⟨rfl, rfl⟩
            go_wp2_with fail
            go_roundw
            case rel => exact ⟨k + 1, by omega, by omega, by go_num, HS6⟩
            case measure => simp [intOf]; omega
          · have hz' : ((k : Int) % ((q : Int) + 1) == 0) = false := by simpa using hz
            go_wp2_with fail
            refine (whole_calls _ wr).mono ?_
            rintro e w4 ⟨rfl, hR4, hb4⟩
            have HD4 := Lib.hid (HD.out.below hb4)
            have HB4 : Hid (Below w.heap.size w w4) := HB.out.trans (hb4.mono hBs)
            have hs4 := hb4.size
            clear hR4 hb4
            go_wp2_with fail
            refine (da_write_gone (HE.out.below HB4.out) (by decide) HD4.out hs1 (armF_le m k (by omega)) HA.out.1 _ _).mono ?_
            rintro e w5 ⟨rfl, hD5, hk5⟩
            rw [show ev p 8 = Value.iface 236 (.pointer (some (p 8))) from rfl]
            have HB5 : Hid (Below w.heap.size w w5) := HB4.out.trans ((HD4.out.out hk5 (by omega) (fun z hz => .inl hz)).mono hs1)
            have HD5 := Lib.hid hD5
            clear hD5 hk5 HD HB HD4 HB4 hz hz'
            go_wp2_with fail
            refine (is_ev (HE.out.below HB5.out) (k := 8) (by decide) _).mono ?_
            rintro e w6 ⟨rfl, hb6⟩
            have HD6 := Lib.hid (HD5.out.below hb6)
            have HS6 : Hid (ArmSt w1.heap.size w.heap.size w w6 d w1.heap.size m (k + 1)) := by
              have hD6' := HD6.out
              rw [HA.out.2.1, ← HA.out.2.2] at hD6'
              exact ⟨_, _, _, _, hD6', by omega, by omega, HB5.out.trans (hb6.mono HB5.out.size)⟩
            clear hb6 HD5
            go_wp2_with fail
            refine (da_down HD6.out).mono ?_
            rintro e w7 ⟨rfl, rfl⟩
            go_wp2_with fail
            go_roundw
            case rel => exact ⟨k + 1, by omega, by omega, by go_num, HS6⟩
            case measure => simp [intOf]; omega
    · obtain rfl : k = 31 := by omega
      have HD := Lib.hid hD
      have HB := Lib.hid hB
      clear hD hB hS
      go_wp2_with fail
      refine (da_crash HD.out (by decide) (by omega) (rdK_nil .i64 wr) (by intro g hg; simp [Value.ownBlock] at hg) (by intro z hz; cases hz)).mono ?_
      rintro e w5 ⟨rfl, pb5, hD5, hp5, hk5⟩
      have HB5 : Hid (Below w.heap.size w w5) := HB.out.trans ((HD.out.out hk5 (by omega) (fun z hz => hz.elim .inl (fun h => .inr (.inl h)))).mono hs1)
      have HD5 := Lib.hid hD5
      have hl5 := hD5.lt
      clear hD5 hk5 HD HB
      go_wp2_with fail
      refine (da_read HD5.out (by decide) 3 (by decide) (by decide)).mono ?_
      rintro e w6 ⟨v6, rfl, _, hb6⟩
      have HD6 := Lib.hid (HD5.out.below hb6)
      have HB6 : Hid (Below w.heap.size w w6) := HB5.out.trans (hb6.mono HB5.out.size)
      have hs6 := hb6.size
      clear hb6 HD5 HB5
      go_wp2_with fail
      refine (da_down HD6.out).mono ?_
      rintro e w7 ⟨rfl, rfl⟩
      go_wp2_with fail
      refine (whole_calls 1 w6).mono ?_
      rintro e w7 ⟨rfl, hR7, hb7⟩
      have HD7 := Lib.hid (HD6.out.below hb7)
      have HR7 := Lib.hid (rowIs_rd hR7)
      have HB7 : Hid (Below w.heap.size w w7) := HB6.out.trans (hb7.mono HB6.out.size)
      have hs7 := hb7.size
      clear hR7 hb7 HD6
      go_wp2_with fail
      refine (da_write HD7.out (by decide) (by decide) rfl 0 (by decide) (by decide) (by omega) HR7.out (by simp) (by intro g hg; simp only [Value.ownBlock, Option.some.injEq] at hg; omega)).mono ?_
      rintro e w8 ⟨rfl, hD8, hk8⟩
      have HB8 : Hid (Below w.heap.size w w8) := HB7.out.trans ((HD7.out.out hk8 (by omega) (fun z hz => hz.elim .inl (fun h => .inr (.inr h)))).mono hs1)
      have HD8 := Lib.hid hD8
      have hl8 := hD8.lt
      clear hD8 hk8 HD7 HB7
      go_wp2_with fail
      refine (da_flush HD8.out (by decide) (by decide) rfl (by omega) (by omega)).mono ?_
      rintro e w9 ⟨rfl, pb9, hD9, _, hk9⟩
      have HB9 : Hid (Below w.heap.size w w9) := HB8.out.trans ((HD8.out.out hk9 (by omega) (fun z hz => hz.elim .inl (fun h => .inr (.inl h)))).mono hs1)
      clear hD9 hk9 HD8
      go_wp2_with fail
      go_ret
      exact ⟨rfl, HB9.out⟩
end Go.Proofs.YtehacchacgfjlaaDoor
