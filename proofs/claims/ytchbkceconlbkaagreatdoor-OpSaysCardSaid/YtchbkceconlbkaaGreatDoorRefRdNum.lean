/- pledgeref1.Reader.Num: the next number, by the reference: what numStep says. -/
import Derived.Test.YtchbkceconlbkaaGreatDoorRefRead
import Derived.Deep.DeepCutAuto
namespace Go.Proofs.YtchbkceconlbkaaGreatDoor
open Go Go.RowKit
set_option linter.unusedSimpArgs false
set_option linter.unusedVariables false

theorem and127u8 : ∀ m, m < 256 → bits .and .u8 ((m : Nat) : Int) 127 = ((m % 128 : Nat) : Int) := by decide +kernel
theorem RefRdr.step {w : World} {rb : Nat} {v : Value} {l : List UInt8} {at0 : Nat} (hR : RefRdr w rb v l (at0, none)) (at1 : Nat) : RefRdr (w.setCell ⟨rb, 1, none⟩ (.int .i64 at1)) rb v l (at1, none) := by
  have hk := keep_setCell w ⟨rb, 1, none⟩ (.int .i64 at1)
  refine ⟨Nat.lt_of_lt_of_le hR.lt hk.size, (cell_setCell_other (by decide)).trans hR.c0, ?_, hR.ne, World.cell?_setCell_same' _ _ _ (by rw [hR.c1]; rfl), ?_, fun j => (frozen_setCell).trans (hR.free j)⟩
  · rcases hR.rd with h | ⟨g, off, cap, h, q1, q2, q3, q4⟩
    · exact .inl h
    · exact .inr ⟨g, off, cap, h, q1, q2, Nat.lt_of_lt_of_le q3 hk.size, fun i hi => (hk.cell (x := ⟨g, off + i, none⟩) q3 (hR.ne g (by rw [h]; rfl))).trans (q4 i hi)⟩
  · rcases hR.bad with ⟨_, h2, h3, h4⟩ | ⟨c, q, h, _⟩
    · exact .inl ⟨rfl, (cell_setCell_other (by decide)).trans h2, (cell_setCell_other (by decide)).trans h3, (cell_setCell_other (by decide)).trans h4⟩
    · cases h
theorem unzz_half (z : Nat) : unzz z = if z % 2 = 0 then ((z : Int) / 2) else -((z : Int) / 2) - 1 := by
  unfold unzz
  split <;> omega

theorem xorNot2 (Z : Nat) (hZ : Z < 2 ^ 64) : bits .xor .i64 (-1) ((Z : Int) / 2) = -((Z : Int) / 2) - 1 := by
  have hd : (Z : Int) / 2 = ((Z / 2 : Nat) : Int) := by omega
  have h := xorM1 (Z / 2) (by omega)
  rw [hd, ← h]
  simp only [bits, BitVec.xor_comm]
def decR (lo hi : Int) (at0 : Nat) : Dec → Int × (Nat × Option (Nat × Nat))
  | .fin => (0, (at0, some (101, at0)))
  | .shape => (0, (at0, some (102, at0)))
  | .ok z k => if unzz z < lo ∨ hi < unzz z then (0, (at0, some (103, at0))) else (unzz z, (at0 + k, none))
theorem numStep_dec (l : List UInt8) (lo hi : Int) (at0 : Nat) : numStep l lo hi (at0, none) = decR lo hi at0 (decZ (l.drop at0) 0 0) := by
  unfold numStep
  cases decZ (l.drop at0) 0 0 <;> rfl
set_option maxHeartbeats 16000000 in
set_option maxRecDepth 100000 in
theorem refNum_calls {w : World} {rb : Nat} {a : Option Addr} {cap : Nat} {l : List UInt8} {st : Nat × Option (Nat × Nat)} (hR : RefRdr w rb (.slice a l.length cap) l st) (hok : rdrOk l st) (hl : l.length ≤ 1000) (lo hi : Int) :
    Calls Tryz.prog 41 #[.pointer (some ⟨rb, 0, none⟩), .int .i64 lo, .int .i64 hi] w fun e w' => e = .returned (.int .i64 (numStep l lo hi st).1) ∧ RefRdr w' rb (.slice a l.length cap) l (numStep l lo hi st).2 ∧ Keep (fun x => x = rb) w w' := by
  have HOk := Lib.hid (refOk_calls hR)
  have HR := Lib.hid hR
  have hlt := hR.lt
  obtain ⟨at0, err⟩ := st
  cases err with
  | some cq =>
    rw [show numStep l lo hi (at0, some cq) = (0, (at0, some cq)) from rfl]
    rw [show (((at0, some cq) : Nat × Option (Nat × Nat)).2.isNone) = false from rfl] at HOk
    clear hR
    go_enter Tryz.func41, Tryz.ntmps41
    go_wp2_with fail
    refine HOk.out.mono ?_
    rintro e _ ⟨rfl, rfl⟩
    go_wp2_with fail
    go_ret
    exact ⟨rfl, HR.out, Keep.refl _ _⟩
  | none =>
    rw [show (((at0, none) : Nat × Option (Nat × Nat)).2.isNone) = true from rfl] at HOk
    have hc0 := hR.c0
    have hc1 := hR.c1
    have hat : at0 ≤ l.length := hok
    have HVR := Lib.hid hR.rd
    have HFail := Lib.hid (fun (c : Nat) h1 h2 => refFail_calls (at0 := at0) hR (c := c) h1 h2)
    obtain ⟨d, hd⟩ : ∃ d, d = decZ (l.drop at0) 0 0 := ⟨_, rfl⟩
    have HStep := Lib.hid (show numStep l lo hi (at0, none) = decR lo hi at0 d by rw [hd]; exact numStep_dec l lo hi at0)
    obtain ⟨N, hN⟩ : ∃ N, N = numStep l lo hi (at0, none) := ⟨_, rfl⟩
    rw [← hN] at HStep ⊢
    have HD : Hid (d = decZ (l.drop (at0 + 0)) 0 0) := hd
    dsimp only at hc1
    clear hd hR hok hN
    go_enter Tryz.func41, Tryz.ntmps41
    go_wp2_with fail
    refine HOk.out.mono ?_
    rintro e _ ⟨rfl, rfl⟩
    clear HOk
    go_wp2_with fail
    go_loop [8, 7] (fun iv zv => ∃ (i z m : Nat), i ≤ 9 ∧ m = at0 + i ∧ iv = .int .i64 m ∧ zv = .int .u64 z ∧ Hid (d = decZ (l.drop (at0 + i)) i z) ∧ m ≤ l.length ∧ Hid (z < 2 ^ (7 * i))) (fun iv _ => l.length + 1 - (intOf iv).toNat)
    case atStart => exact ⟨0, 0, at0, by omega, by omega, rfl, rfl, HD, hat, by simp [Hid]⟩
    case round =>
      obtain ⟨i, z, m, hi9, hm, rfl, rfl, hD, hle, hz⟩ := hrel
      clear HD
      by_cases hend : m < l.length
      · have hge : decide ((m : Int) ≥ (l.length : Int)) = false := decide_eq_false (by omega)
        rcases HVR.out with ⟨h0, _⟩ | ⟨g, off, cc, hvv, h1, h2, hg, hcell⟩
        · simp only [Value.slice.injEq] at h0
          omega
        have hbl : (bytesI l).length = l.length := by simp [bytesI]
        simp only [Value.slice.injEq] at hvv
        obtain ⟨rfl, hll, rfl⟩ := hvv
        clear hll
        have d0 := hcell m (by omega)
        have hby : (bytesI l).getD m 0 = ((l[m]'hend).toNat : Int) := by
          simp [bytesI, List.getD, hend]
        rw [hby] at d0
        have hcons : l.drop (at0 + i) = l[m]'hend :: l.drop (at0 + (i + 1)) := by
          rw [← hm, List.drop_eq_getElem_cons hend, show at0 + (i + 1) = m + 1 by omega]
        have HD1 := hD.out
        rw [hcons] at HD1
        simp only [decZ] at HD1
        have hc256 : (l[m]'hend).toNat < 256 := (l[m]'hend).toNat_lt
        have hsub : (m : Int) - (at0 : Int) = (i : Int) := by omega
        have hwi : IntKind.i64.wrap (i : Int) = i := IntWalk.i64_in _ (by omega)
        have HM := Lib.hid hm
        clear hcell hby hcons hD hbl hm
        generalize (l[m]'hend).toNat = c at d0 HD1 hc256
        have hm0 : (0 : Int) ≤ (m : Int) := by omega
        have hml : (m : Int) < (l.length : Int) := by omega
        by_cases hbad : (i = 9 ∧ 1 < c) ∨ (0 < i ∧ c = 0)
        · have hsh : d = .shape := by
            rcases hbad with h | ⟨h1', h2'⟩
            · rw [if_pos h] at HD1; exact HD1
            · rw [if_neg (by omega), if_neg (by omega), if_pos ⟨h2', h1'⟩] at HD1; exact HD1
          have HSt2 := Lib.hid HStep.out
          rw [hsh] at HSt2
          have HBad := Lib.hid hbad
          clear HD1 hsh hbad
          go_upto_region 10 with fail
          go_cut [58] (fun v wx => v = .bool true ∧ w = wx)
          case first =>
            by_cases hq9 : i = 9 ∧ 1 < c
            · have b1 : ((i : Int) == 9) = true := by simp; omega
              have b2 : decide ((c : Int) > 1) = true := decide_eq_true (by omega)
              clear hq9
              go_wp2_with fail
              go_meet
              exact ⟨rfl, rfl⟩
            · obtain ⟨hi0, hcz⟩ := HBad.out.resolve_left hq9
              have b3 : decide ((i : Int) > 0) = true := decide_eq_true (by omega)
              have b4 : ((c : Int) == 0) = true := by simp; omega
              have b2 : decide ((c : Int) > 1) = false := decide_eq_false (by omega)
              by_cases h9 : i = 9
              · have b1 : ((i : Int) == 9) = true := by simp; omega
                clear h9 hq9 hcz
                go_wp2_with fail
                go_meet
                exact ⟨rfl, rfl⟩
              · have b1 : ((i : Int) == 9) = false := by simp; omega
                clear h9 hq9 hcz
                go_wp2_with fail
                go_meet
                exact ⟨rfl, rfl⟩
          case rest =>
            obtain ⟨rfl, rfl⟩ := hcut
            have HF2 := Lib.hid (HFail.out 102 (by decide) (by decide))
            clear HFail
            go_wp2_with fail
            refine HF2.out.mono ?_
            rintro e w2 ⟨rfl, hr2, hk2⟩
            have HR2 := Lib.hid hr2
            have HK2 := Lib.hid hk2
            clear hr2 hk2
            go_wp2_with fail
            go_ret
            rw [HSt2.out]
            exact ⟨rfl, HR2.out, HK2.out⟩
        · have h9n : ¬ (i = 9 ∧ 1 < c) := fun h => hbad (.inl h)
          have hzn : ¬ (0 < i ∧ c = 0) := fun h => hbad (.inr h)
          rw [if_neg h9n] at HD1
          have hor := or_step i z c hi9 hz.out hc256 h9n
          have hZ64 := or_lt64 i z c hi9 hz.out hc256 h9n
          have hZlt := or_lt i z c hz.out
          generalize z + c % 128 * 2 ^ (7 * i) = Z at hor hZ64 hZlt HD1
          have HBn := Lib.hid hbad
          have HD1 := Lib.hid HD1
          clear hbad
          go_upto_region 10 with fail
          go_cut [58] (fun v wx => v = .bool false ∧ w = wx)
          case first =>
            by_cases h9 : i = 9
            · have b1 : ((i : Int) == 9) = true := by simp; omega
              have b2 : decide ((c : Int) > 1) = false := decide_eq_false (by omega)
              have b3 : decide ((i : Int) > 0) = true := decide_eq_true (by omega)
              have b4 : ((c : Int) == 0) = false := by simp; omega
              have hpi : 0 < i := by omega
              clear h9 h9n hzn hor
              go_wp2_with fail
              go_meet
              exact ⟨rfl, rfl⟩
            · have b1 : ((i : Int) == 9) = false := by simp; omega
              by_cases hi0 : 0 < i
              · have b3 : decide ((i : Int) > 0) = true := decide_eq_true (by omega)
                have b4 : ((c : Int) == 0) = false := by simp; omega
                clear h9 h9n hzn hor
                go_wp2_with fail
                go_meet
                exact ⟨rfl, rfl⟩
              · have b3 : decide ((i : Int) > 0) = false := decide_eq_false (by omega)
                clear h9 h9n hzn hor
                go_wp2_with fail
                go_meet
                exact ⟨rfl, rfl⟩
          case rest =>
            obtain ⟨rfl, rfl⟩ := hcut
            have han := and127u8 c hc256
            have hw7 : IntKind.i64.wrap (7 * (i : Int)) = 7 * (i : Int) := IntWalk.i64_in _ (by omega)
            have hwm : IntKind.i64.wrap ((m : Int) + 1) = (m : Int) + 1 := IntWalk.i64_in _ (by omega)
            by_cases h128 : c < 128
            · have hcd : decide ((c : Int) < 128) = true := decide_eq_true (by omega)
              have HD2 : Hid (d = .ok Z (i + 1)) := by
                have h := HD1.out
                rw [if_neg (by omega), if_neg (by omega)] at h
                exact h
              have HSt2 := Lib.hid HStep.out
              rw [HD2.out] at HSt2
              have hwz : wrap64 ((Z : Int) / 2) = (Z : Int) / 2 := by unfold wrap64; omega
              have hnb := unzz_half Z
              have HNb := Lib.hid hnb
              have HSt3 : Hid (N = if unzz Z < lo ∨ hi < unzz Z then (0, (at0, some (103, at0))) else (unzz Z, (at0 + (i + 1), none))) := HSt2.out
              clear HD1 HD2 HStep hnb HBn
              go_upto_region 16 with fail
              by_cases he : Z % 2 = 0
              · have hand : bits .and .u64 (Z : Int) 1 = 0 := by rw [and1 Z hZ64, he]; rfl
                have hv := Lib.hid (show unzz Z = (Z : Int) / 2 by rw [HNb.out, if_pos he])
                clear he
                go_upto_region 19 with fail
                rw [← hv.out]
                generalize unzz Z = n at HSt3 ⊢
                have hm1 : (m : Int) + 1 = ((at0 + (i + 1) : Nat) : Int) := by have := HM.out; omega
                by_cases hrng : n < lo ∨ hi < n
                · have hN := HSt3.out
                  rw [if_pos hrng] at hN
                  have HN3 := Lib.hid hN
                  have HRng := Lib.hid hrng
                  have HF2 := Lib.hid (HFail.out 103 (by decide) (by decide))
                  clear hN hrng HFail HSt3 hm1
                  go_cut [93] (fun v wx => v = .bool true ∧ w = wx)
                  case first =>
                    by_cases h1 : n < lo
                    · have d1 : decide (n < lo) = true := decide_eq_true h1
                      go_wp2_with fail
                      go_meet
                      exact ⟨rfl, rfl⟩
                    · have d1 : decide (n < lo) = false := decide_eq_false h1
                      have d2 : decide (n > hi) = true := decide_eq_true (by have := HRng.out; omega)
                      go_wp2_with fail
                      go_meet
                      exact ⟨rfl, rfl⟩
                  case rest =>
                    obtain ⟨rfl, rfl⟩ := hcut
                    go_wp2_with fail
                    refine HF2.out.mono ?_
                    rintro e w2 ⟨rfl, hr2, hk2⟩
                    have HR2 := Lib.hid hr2
                    have HK2 := Lib.hid hk2
                    clear hr2 hk2
                    go_wp2_with fail
                    go_ret
                    rw [HN3.out]
                    exact ⟨rfl, HR2.out, HK2.out⟩
                · have d1 : decide (n < lo) = false := decide_eq_false (by omega)
                  have d2 : decide (n > hi) = false := decide_eq_false (by omega)
                  have hN := HSt3.out
                  rw [if_neg hrng] at hN
                  have HN3 := Lib.hid hN
                  have hf1 := HR.out.free 1
                  have HRs := Lib.hid (HR.out.step (at0 + (i + 1)))
                  have HKs := Lib.hid (keep_setCell w ⟨rb, 1, none⟩ (.int .i64 (at0 + (i + 1) : Nat)))
                  rw [hm1]
                  clear hN hrng HFail HSt3 hm1 hwm
                  generalize at0 + (i + 1) = at1 at *
                  go_wp2_with fail
                  go_ret
                  rw [HN3.out]
                  exact ⟨rfl, HRs.out, HKs.out⟩
              · have hand : bits .and .u64 (Z : Int) 1 = 1 := by rw [and1 Z hZ64, show Z % 2 = 1 by omega]; rfl
                have hv := Lib.hid (show unzz Z = -((Z : Int) / 2) - 1 by rw [HNb.out, if_neg he])
                clear he
                have hxo := xorNot2 Z hZ64
                rw [← hv.out] at hxo
                go_upto_region 19 with fail
                simp only [show IntKind.i64.signed = true from rfl, if_true]
                rw [hxo]
                generalize unzz Z = n at HSt3 ⊢
                have hm1 : (m : Int) + 1 = ((at0 + (i + 1) : Nat) : Int) := by have := HM.out; omega
                by_cases hrng : n < lo ∨ hi < n
                · have hN := HSt3.out
                  rw [if_pos hrng] at hN
                  have HN3 := Lib.hid hN
                  have HRng := Lib.hid hrng
                  have HF2 := Lib.hid (HFail.out 103 (by decide) (by decide))
                  clear hN hrng HFail HSt3 hm1
                  go_cut [93] (fun v wx => v = .bool true ∧ w = wx)
                  case first =>
                    by_cases h1 : n < lo
                    · have d1 : decide (n < lo) = true := decide_eq_true h1
                      go_wp2_with fail
                      go_meet
                      exact ⟨rfl, rfl⟩
                    · have d1 : decide (n < lo) = false := decide_eq_false h1
                      have d2 : decide (n > hi) = true := decide_eq_true (by have := HRng.out; omega)
                      go_wp2_with fail
                      go_meet
                      exact ⟨rfl, rfl⟩
                  case rest =>
                    obtain ⟨rfl, rfl⟩ := hcut
                    go_wp2_with fail
                    refine HF2.out.mono ?_
                    rintro e w2 ⟨rfl, hr2, hk2⟩
                    have HR2 := Lib.hid hr2
                    have HK2 := Lib.hid hk2
                    clear hr2 hk2
                    go_wp2_with fail
                    go_ret
                    rw [HN3.out]
                    exact ⟨rfl, HR2.out, HK2.out⟩
                · have d1 : decide (n < lo) = false := decide_eq_false (by omega)
                  have d2 : decide (n > hi) = false := decide_eq_false (by omega)
                  have hN := HSt3.out
                  rw [if_neg hrng] at hN
                  have HN3 := Lib.hid hN
                  have hf1 := HR.out.free 1
                  have HRs := Lib.hid (HR.out.step (at0 + (i + 1)))
                  have HKs := Lib.hid (keep_setCell w ⟨rb, 1, none⟩ (.int .i64 (at0 + (i + 1) : Nat)))
                  rw [hm1]
                  clear hN hrng HFail HSt3 hm1 hwm
                  generalize at0 + (i + 1) = at1 at *
                  go_wp2_with fail
                  go_ret
                  rw [HN3.out]
                  exact ⟨rfl, HRs.out, HKs.out⟩
            · have hcd : decide ((c : Int) < 128) = false := decide_eq_false (by omega)
              have HD2 : Hid (d = decZ (l.drop (at0 + (i + 1))) (i + 1) Z) := by
                have h := HD1.out
                rw [if_pos (by omega)] at h
                exact h
              have hi8 : i ≤ 8 := by omega
              clear HD1
              go_wp2_with fail
              go_round
              case rel => exact ⟨i + 1, Z, m + 1, by omega, by have := HM.out; omega, by go_num, rfl, HD2, by omega, hZlt⟩
              case measure => simp [intOf]; omega
      · have hge : decide ((m : Int) ≥ (l.length : Int)) = true := decide_eq_true (by omega)
        have hfin : d = .fin := by
          have h := hD.out
          rw [List.drop_eq_nil_of_le (by omega)] at h
          exact h
        have HSt2 := Lib.hid HStep.out
        rw [hfin] at HSt2
        have HF2 := Lib.hid (HFail.out 101 (by decide) (by decide))
        have hlm : l.length ≤ m := by omega
        clear hfin hD HFail hm
        go_wp2_with fail
        refine HF2.out.mono ?_
        rintro e w2 ⟨rfl, hr2, hk2⟩
        have HR2 := Lib.hid hr2
        have HK2 := Lib.hid hk2
        clear hr2 hk2
        go_wp2_with fail
        go_ret
        rw [HSt2.out]
        exact ⟨rfl, HR2.out, HK2.out⟩
end Go.Proofs.YtchbkceconlbkaaGreatDoor
