/- The walk of pledgelaw22.StressPlays: it returns true, and writes nothing that was there. (Written by gen_stressplays.py.) -/
import Derived.Test.YtehacchacgfjlaaDoorStressPlay
import Derived.Deep.RegionHeld3
import Derived.Deep.DeepCutAuto
namespace Go.Proofs.YtehacchacgfjlaaDoor
open Go.Maps
open Go Go.RowKit
set_option linter.unusedSimpArgs false
set_option linter.unusedVariables false

theorem zeroLoss : Tryd.zeroCells101.toList = (List.range 561).map (lossF []) := by kernel_rfl

set_option maxHeartbeats 16000000 in
set_option maxRecDepth 100000 in
theorem walk_StressPlays {p : Nat → Addr} {w : World} (hE : Errs (List.range 21) w.heap.size p w) (a : Option Addr) (len cap : Nat) (zs : List Int) (c : Option Addr) (len1 cap1 : Nat) (ys : List Int) (scene qs qm : Int) (hz : IsRows 3 w a len cap zs) (hy : IsRow .i64 w c len1 cap1 ys) (l0 : -9223372036854775808 ≤ scene) (u0 : scene ≤ 9223372036854775807) (l1 : -9223372036854775808 ≤ qs) (u1 : qs ≤ 9223372036854775807) (l2 : -9223372036854775808 ≤ qm) (u2 : qm ≤ 9223372036854775807) :
    Calls Tryd.prog 14 #[.slice a len cap, .slice c len1 cap1, .int .i64 scene, pairV (qs, qm)] w fun e w' => e = .returned (.bool true) ∧ Below w.heap.size w w' := by
  have HE := Lib.hid hE; clear hE
  have HB0 : Below w.heap.size w (w.alloc (Obj.cells #[.int .i64 qs, .int .i64 qm] 94)) := by (repeat (first | exact Below.refl _ _ | assumption | refine Below.drew ?_ | refine below_many ?_ _ | refine Below.alloc ?_ (by first | (simp; done) | (simp; omega) | omega) _ | refine Below.setCell ?_ (by first | (simp; done) | (simp; omega) | omega) _))
  by_cases hl : 60 < len
  · have hl1 : decide ((60 : Int) < len) = true := decide_eq_true (by omega)
    clear hz hy hl
    go_enter Tryd.func14, Tryd.ntmps14
    go_wp2_with fail
    refine (first22_calls (HE.out.below HB0) (by decide) (by decide) (by decide)).mono ?_
    rintro e w1 ⟨rfl, hb1⟩
    go_wp2_with fail
    go_ret
    exact ⟨rfl, bbase HB0 hb1⟩
  have hl1 : decide ((60 : Int) < len) = false := decide_eq_false (by omega)
  by_cases hk : 40 < len1
  · have hk1 : decide ((40 : Int) < len1) = true := decide_eq_true (by omega)
    clear hz hy hl hk
    go_enter Tryd.func14, Tryd.ntmps14
    go_wp2_with fail
    refine (first22_calls (HE.out.below HB0) (by decide) (by decide) (by decide)).mono ?_
    rintro e w1 ⟨rfl, hb1⟩
    go_wp2_with fail
    go_ret
    exact ⟨rfl, bbase HB0 hb1⟩
  have hk1 : decide ((40 : Int) < len1) = false := decide_eq_false (by omega)
  have HZ := Lib.hid hz
  have HV := Lib.hid (slI_of_row hy)
  generalize ys.take len1 = xs at HV
  have HW := Lib.hid (And.intro (And.intro (i64wf l1 u1) (i64wf l2 u2)) (And.intro l0 u0))
  clear hz hy l0 u0 l1 u1 l2 u2
  go_enter Tryd.func14, Tryd.ntmps14
  go_wp2_with fail
  refine (first22_calls (HE.out.below HB0) (by decide) (by decide) (by decide)).mono ?_
  rintro e w1 ⟨rfl, hb1⟩
  obtain ⟨W1, hW1⟩ : ∃ W1, W1 = w.alloc (Obj.cells #[.int .i64 qs, .int .i64 qm] 94) := ⟨_, rfl⟩
  have HA : Hid (W1.heap.size = w.heap.size + 1 ∧ W1.cell? ⟨w.heap.size, 0, none⟩ = some (.int .i64 qs) ∧ W1.cell? ⟨w.heap.size, 1, none⟩ = some (.int .i64 qm)) := by
    rw [hW1]; exact ⟨by simp, by go_simp, by go_simp⟩
  rw [← hW1] at hb1 HB0
  have hs1 := hb1.size
  go_wp2_with fail
  obtain ⟨w2, hw2⟩ : ∃ w2, w2 = (w1.alloc (Obj.cells #[Value.map none] 97)).alloc (Obj.cells Tryd.zeroCells101 101) := ⟨_, rfl⟩
  have HL0 : Hid (TabR w2 w1.heap.size none []) := by
    rw [hw2]
    have h0 : TabR (w1.alloc (Obj.cells #[Value.map none] 97)) w1.heap.size none [] := ⟨by go_simp, .inl ⟨rfl, rfl⟩, by go_simp, by simp⟩
    exact h0.below ((Below.refl _ _).alloc (Nat.le_refl _) _)
  have HY0 : Hid (Arr w2 (w1.heap.size + 1) 561 (lossF [])) := by
    rw [hw2]
    have := arr_new (w1.alloc (Obj.cells #[Value.map none] 97)) _ 101 561 _ zeroLoss
    rwa [World.size_alloc] at this
  have HN0 : Hid (Below W1.heap.size W1 w2) := by rw [hw2]; unfold Hid; (repeat (first | exact Below.refl _ _ | assumption | refine Below.drew ?_ | refine below_many ?_ _ | refine Below.alloc ?_ (by first | (simp; done) | (simp; omega) | omega) _ | refine Below.setCell ?_ (by first | (simp; done) | (simp; omega) | omega) _))
  have hw2s : w1.heap.size + 2 ≤ w2.heap.size := by rw [hw2]; simp
  rw [← hw2]
  have HB := Lib.hid HB0
  have hW1s : W1.heap.size = w.heap.size + 1 := HA.out.1
  clear hw2 hb1 hW1 HB0
  generalize w1.heap.size = lb at HL0 HY0 hw2s hs1 ⊢
  go_loopw [12] (fun i wr => ∃ (k : Nat) (r : Option Nat), k ≤ len ∧ i = .int .i64 k ∧ Hid (TabR wr lb r (lpHave zs k)) ∧ Hid (Arr wr (lb + 1) 561 (lossF (lpHave zs k))) ∧ Hid (Rok W1.heap.size lb (lb + 1) r) ∧ Hid (Below W1.heap.size W1 wr) ∧ lb + 2 ≤ wr.heap.size) (fun i _ => len - (intOf i).toNat)
  case atStart => exact ⟨0, none, by omega, rfl, HL0, HY0, (fun x hx => by cases hx), HN0, hw2s⟩
  case round =>
    obtain ⟨k, r, hkl0, rfl, hL, hY, hR, hN, hsw⟩ := hrel
    by_cases hkl : k < len
    · have hbw := bbase HB.out hN.out
      obtain ⟨b, off, rfl, hbl, hzl, hlc, hcm, hcell, hwf⟩ := HZ.out.open (by decide) (by omega)
      unfold maxLen at hcm
      have D0 := (hbw.cell (p := ⟨b, off + k * 3, none⟩) hbl).trans (hcell (k * 3) (by omega))
      have D1 := (hbw.cell (p := ⟨b, off + (k * 3 + 1), none⟩) hbl).trans (hcell (k * 3 + 1) (by omega))
      have D2 := (hbw.cell (p := ⟨b, off + (k * 3 + 2), none⟩) hbl).trans (hcell (k * 3 + 2) (by omega))
      rw [← Nat.add_assoc] at D1 D2
      have HN : Hid (lpHave zs (k + 1) = lpNext (lpHave zs k) (zs.getD (k * 3) 0) (zs.getD (k * 3 + 1) 0) (zs.getD (k * 3 + 2) 0)) := rfl
      generalize zs.getD (k * 3) 0 = x1 at D0 HN
      generalize zs.getD (k * 3 + 1) 0 = x2 at D1 HN
      generalize zs.getD (k * 3 + 2) 0 = x3 at D2 HN
      generalize lpHave zs k = m at hL hY HN
      clear hcell hwf HL0 HY0 HN0 hbw
      have hbd : Below wr.heap.size wr wr.drew := (Below.refl _ _).drew
      have HD : Hid (DR wr.drew b (off + k * 3) x1 x2 x3) := (show DR wr b (off + k * 3) x1 x2 x3 from ⟨D0, D1, D2⟩).below hbd
      have HL : Hid (TabR wr.drew lb r m) := hL.out.below hbd
      have HY : Hid (Arr wr.drew (lb + 1) 561 (lossF m)) := hY.out.below (by omega) hbd
      have hN : Below W1.heap.size W1 wr.drew := bbase hN.out hbd
      have hsd : lb + 2 ≤ wr.drew.heap.size := hsw
      have HRl := Lib.hid hR.out
      have hbr : ∀ x, r = some x → x ≠ b := fun x hx e => by have := (hR.out x hx).1; omega
      have hbb : b ≠ lb ∧ b ≠ lb + 1 := by omega
      clear hL hY hR hbd D0 D1 D2
      have hkk : k * 3 + 3 ≤ len * 3 := by omega
      go_wp2_with fail
      go_region_held3 (fun wq => wq.cell? ⟨b, off + k * 3, none⟩ = some (.int .i64 x1) ∧ wq.cell? ⟨b, off + k * 3 + 1, none⟩ = some (.int .i64 x2) ∧ wq.cell? ⟨b, off + k * 3 + 2, none⟩ = some (.int .i64 x3))
        (exact ⟨HD.out.c0, HD.out.c1, HD.out.c2⟩)
        (first
          | (go_at_call 52; go_loud (refine (tabR_set (HE.out.below (bbase HB.out hN)) HL.out x1 x2 x3).mono ?_); go_loud (rintro e w3 ⟨rfl, r3, hL3, hr3, hk3⟩; have hs3 := hk3.size; have hN0 := hN; have HD := Lib.hid (HD.out.keep hk3 (fun h => h.elim (fun h => hbb.1 h) (fun h => hbr _ h rfl))); have HY := Lib.hid (HY.out.keep (by decide) hk3 (fun h => h.elim (fun h => by omega) (fun h => (HRl.out _ h).2.1 rfl))); have hN := hN.trans (hk3.below hN.size (fun j hj h => h.elim (fun h => by omega) (fun h => by have := (HRl.out _ h).1; omega))); have HL := Lib.hid hL3; have HR3 := Lib.hid (HRl.out.next hr3 hN0.size (by omega) (by omega))))
          | (go_at_call 53; go_loud (refine (loss_set HY.out x1 x2 x3).mono ?_); go_loud (rintro e w4 ⟨rfl, hY4, hk4⟩; have hs4 := hk4.size; have HD := Lib.hid (HD.out.keep hk4 (fun h => hbb.2 h)); have HL := Lib.hid (HL.out.keep hk4 (fun h => by omega) (fun x hx h => (HR3.out x hx).2.1 h)); have HY := Lib.hid hY4; have hN := hN.trans (hk4.below hN.size (fun j hj h => by omega))))
          | (go_at_call 19; go_loud (refine (is_okV (HE.out.below (bbase HB.out hN)) (cellOK x1 x2 x3)).mono ?_); go_loud (rintro e w5 ⟨rfl, hb⟩; have hs5 := hb.size; have HD := Lib.hid (HD.out.below hb); have HL := Lib.hid (HL.out.below hb); have HY := Lib.hid (HY.out.below (by omega) hb); have hN := bbase hN hb)))
      go_wp2_with fail
      go_roundw
      case rel => exact ⟨k + 1, r3, by omega, by go_num, by rw [HN.out]; exact HL, by rw [HN.out]; exact HY, HR3, hN, by omega⟩
      case measure => simp [intOf]; omega
    · obtain rfl : k = len := by omega
      obtain ⟨hOK, hlen⟩ := lpHave_ok zs k
      generalize lpHave zs k = m at hL hY hlen hOK
      clear HZ HL0 HY0 HN0
      go_wp2_with fail
      refine (allS_calls hL.out.cmap hL.out.map (by omega)).mono ?_
      rintro e w3 ⟨v, rfl, ⟨ad, cp, rfl, hlc, hcm, hcells⟩, hb3⟩
      have HL := Lib.hid (hL.out.below hb3)
      have HY := Lib.hid (hY.out.below (by omega) hb3)
      have HN := Lib.hid (bbase hN.out hb3)
      have hsz3 := hb3.size
      have hsw3 : lb + 2 ≤ w3.heap.size := by omega
      clear hL hY hR hN hb3 hsz3 hsw hlen
      obtain ⟨K, hK⟩ : ∃ K, K = m.map (·.1) := ⟨_, rfl⟩
      have hnd := hOK.nd
      rw [← hK] at hnd hcells hlc ⊢
      have hKb : ∀ x ∈ K, 1 ≤ x.1 ∧ x.1 ≤ 16 ∧ 1 ≤ x.2 ∧ x.2 ≤ 32 := fun x hx => by
        rw [hK] at hx
        obtain ⟨y, hy, rfl⟩ := List.mem_map.1 hx
        exact hOK.keys y hy
      have hmem : ∀ c b, (c, b) ∈ K ↔ (mget m (c, b)).getD 0 ≠ 0 := fun c b => by rw [hK]; exact hOK.mem (c, b)
      have hKl : (sortP K).length = K.length := sortP_length K
      have hSN : ∀ c b, (c, b) ∈ K → (sortP K)[cntP K c b]? = some (c, b) := fun c b h => sortP_next hnd h
      have HG := Lib.hid (And.intro hKb (And.intro hmem (And.intro hSN (And.intro hcells (And.intro hnd hKl)))))
      have HOK := Lib.hid hOK
      clear hK hKb hmem hSN hcells hnd hOK
      generalize (sortP K).length = nn at hKl hlc ⊢
      unfold maxLen at hcm
      have h00 : cntP K 1 1 = 0 := cntP_start (fun x hx => ⟨(HG.out.1 x hx).1, (HG.out.1 x hx).2.2.1⟩)
      have H00 := Lib.hid h00
      have HNN := Lib.hid hKl
      clear h00 hKl
      go_wp2_with fail
      go_loop [15, 14] (fun cv nv => ∃ c : Int, 1 ≤ c ∧ c ≤ 17 ∧ cv = .int .i64 c ∧ nv = .int .i64 ((cntP K c 1 : Nat) : Int)) (fun cv _ => (17 - intOf cv).toNat)
      case atStart => exact ⟨1, by omega, by omega, rfl, by rw [H00.out]; rfl⟩
      case round =>
        obtain ⟨c, hc1, hc7, rfl, rfl⟩ := hrel
        by_cases hc : c ≤ 16
        · go_wp2_with fail
          go_loop [16, 14] (fun bv nv => ∃ b : Int, 1 ≤ b ∧ b ≤ 33 ∧ bv = .int .i64 b ∧ nv = .int .i64 ((cntP K c b : Nat) : Int)) (fun bv _ => (33 - intOf bv).toNat)
          case atStart => exact ⟨1, by omega, by omega, rfl, rfl⟩
          case round =>
            obtain ⟨b, hb0, hb6, rfl, rfl⟩ := hrel
            by_cases hb : b ≤ 32
            · have hcell := HY.out.cell (c.toNat * 33 + b.toNat) (by omega)
              rw [lossF_at m (by omega) (by omega) hb] at hcell
              have hsc := Lib.hid (cntP_succ HG.out.2.2.2.2.1 c b)
              have hq1 : 0 ≤ c ∧ c < 17 := by omega
              have hq2 : 0 ≤ b ∧ b < 33 := by omega
              by_cases hm : (c, b) ∈ K
              · have hne := (HG.out.2.1 c b).1 hm
                have hsn := HG.out.2.2.1 c b hm
                have hnl := (List.getElem?_eq_some_iff.1 hsn).1
                obtain ⟨g, rfl, hg1, hg2, hcs⟩ := HG.out.2.2.2.1.resolve_left (fun e => by rw [e] at hsn; simp at hsn)
                obtain ⟨q0, q1⟩ := hcs _ _ hsn
                have hln : cntP K c b < nn := by have h1 := sortP_length K; have h2 := HNN.out; omega
                rw [if_pos hm] at hsc
                generalize (mget m (c, b)).getD 0 = lv at hcell hne
                have hnb : (lv == 0) = false := by simpa using hne
                clear hsn hnl hcs hne
                generalize cntP K c b = n at *
                go_wp2_with fail
                go_round
                case rel => exact ⟨b + 1, by omega, by omega, rfl, by rw [hsc.out]; go_num⟩
                case measure => simp [intOf]; omega
              · have hz0 : (mget m (c, b)).getD 0 = 0 := by
                  cases Int.decEq ((mget m (c, b)).getD 0) 0 with
                  | isTrue h => exact h
                  | isFalse h => exact absurd ((HG.out.2.1 c b).2 h) hm
                rw [hz0] at hcell
                rw [if_neg hm, Nat.add_zero] at hsc
                clear hz0
                generalize hcn : cntP K c b = n at *
                go_wp2_with fail
                go_round
                case rel => exact ⟨b + 1, by omega, by omega, rfl, by rw [hsc.out]⟩
                case measure => simp [intOf]; omega
            · obtain rfl : b = 33 := by omega
              have hrow : Hid (cntP K (c + 1) 1 = cntP K c 33) := cntP_row (fun x hx => by have := HG.out.1 x hx; omega) c
              go_wp2_with fail
              go_round
              case rel => exact ⟨c + 1, by omega, by omega, rfl, by rw [hrow.out]⟩
              case measure => simp [intOf]; omega
        · obtain rfl : c = 17 := by omega
          have hend : cntP K 17 1 = nn := by
            rw [cntP_end (fun x hx => by have := HG.out.1 x hx; omega)]
            exact HNN.out.symm
          rw [hend]
          clear hend
          have HI2 : Hid (∀ w', Errs (List.range 21) w.heap.size p w' → Calls Tryd.prog 19 #[resE p (twoR m scene xs), .int .i64 (resC (twoR m scene xs))] w' fun e w'' => e = .returned (.bool true) ∧ Below w'.heap.size w' w'') := fun w' h => is_resE h _ (fun k h => twoR_err h)
          have HIC : Hid (∀ w', Errs (List.range 21) w.heap.size p w' → Calls Tryd.prog 19 #[resE p (coverR m xs), .int .i64 (resC (coverR m xs))] w' fun e w'' => e = .returned (.bool true) ∧ Below w'.heap.size w' w'') := fun w' h => is_resE h _ (fun k h => coverN_errk h)
          have HIT : Hid (∀ w', Errs (List.range 21) w.heap.size p w' → Calls Tryd.prog 19 #[resE p (topR xs), .int .i64 (resC (topR xs))] w' fun e w'' => e = .returned (.bool true) ∧ Below w'.heap.size w' w'') := fun w' h => is_resE h _ (fun k h => topR_err h)
          have HV3 := Lib.hid (HV.out.below (bbase HB.out HN.out))
          go_wp2_with fail
          refine (two_calls (HE.out.below (bbase HB.out HN.out)) (by decide) (by decide) (by decide) HL.out.cmap HL.out.map HL.out.bd scene HV3.out).mono ?_
          rintro e w4 ⟨rfl, hb⟩
          rw [resV_eq]
          have hs4 := hb.size
          have HL := Lib.hid (HL.out.below hb)
          have HY := Lib.hid (HY.out.below (by omega) hb)
          have HN := Lib.hid (bbase HN.out hb)
          have HV3 := Lib.hid (HV3.out.below hb)
          clear hb
          have R2 := Lib.hid (twoRef_calls HY.out HL.out.bd scene HV3.out)
          rw [resN_eq] at R2
          generalize resI (twoR m scene xs) = i2 at R2 ⊢
          generalize resE p (twoR m scene xs) = e2 at HI2 ⊢
          generalize resC (twoR m scene xs) = c2 at HI2 R2
          go_wp2_with fail
          refine R2.out.mono ?_
          rintro e w5 ⟨rfl, hb⟩
          clear R2
          have hs5 := hb.size
          have HL := Lib.hid (HL.out.below hb)
          have HY := Lib.hid (HY.out.below (by omega) hb)
          have HN := Lib.hid (bbase HN.out hb)
          have HV3 := Lib.hid (HV3.out.below hb)
          clear hb
          go_wp2_with fail
          refine (cover_calls (HE.out.below (bbase HB.out HN.out)) (by decide) (by decide) (by decide) HL.out.cmap HL.out.map HL.out.bd HV3.out).mono ?_
          rintro e w6 ⟨rfl, hb⟩
          rw [covV_eq]
          have hs6 := hb.size
          have HL := Lib.hid (HL.out.below hb)
          have HY := Lib.hid (HY.out.below (by omega) hb)
          have HN := Lib.hid (bbase HN.out hb)
          have HV3 := Lib.hid (HV3.out.below hb)
          clear hb
          have R2 := Lib.hid (coverRef_calls HY.out HL.out.bd HV3.out)
          rw [covN_eq] at R2
          generalize (covI (coverR m xs)).1 = i3 at R2 ⊢
          generalize (covI (coverR m xs)).2 = i4 at R2 ⊢
          generalize resE p (coverR m xs) = e3 at HIC ⊢
          generalize resC (coverR m xs) = c3 at HIC R2
          go_wp2_with fail
          refine R2.out.mono ?_
          rintro e w7 ⟨rfl, hb⟩
          clear R2
          have hs7 := hb.size
          have HL := Lib.hid (HL.out.below hb)
          have HY := Lib.hid (HY.out.below (by omega) hb)
          have HN := Lib.hid (bbase HN.out hb)
          have HV3 := Lib.hid (HV3.out.below hb)
          clear hb
          go_wp2_with fail
          refine (top_calls (HE.out.below (bbase HB.out HN.out)) (by decide) (by decide) HV3.out).mono ?_
          rintro e w8 ⟨rfl, hb⟩
          rw [resV_eq]
          have hs8 := hb.size
          have HL := Lib.hid (HL.out.below hb)
          have HY := Lib.hid (HY.out.below (by omega) hb)
          have HN := Lib.hid (bbase HN.out hb)
          have HV3 := Lib.hid (HV3.out.below hb)
          clear hb
          have R2 := Lib.hid (topRef_calls HV3.out)
          rw [resN_eq] at R2
          generalize resI (topR xs) = i5 at R2 ⊢
          generalize resE p (topR xs) = e5 at HIT ⊢
          generalize resC (topR xs) = c5 at HIT R2
          go_wp2_with fail
          refine R2.out.mono ?_
          rintro e _ ⟨rfl, rfl⟩
          clear R2 HV3
          have hbd8 : Below w8.heap.size w8 w8.drew := (Below.refl _ _).drew
          have HL := Lib.hid (HL.out.below hbd8)
          have HY := Lib.hid (HY.out.below (by omega) hbd8)
          have hN := bbase HN.out hbd8
          have hsd : lb + 2 ≤ w8.drew.heap.size := by show lb + 2 ≤ w8.heap.size; omega
          have hAC : Hid (w8.drew.cell? ⟨w.heap.size, 0, none⟩ = some (.int .i64 qs) ∧ w8.drew.cell? ⟨w.heap.size, 1, none⟩ = some (.int .i64 qm)) := by
            have h1 := HA.out.2
            have hlt : w.heap.size < W1.heap.size := by omega
            exact ⟨(hN.cell (p := ⟨w.heap.size, 0, none⟩) hlt).trans h1.1, (hN.cell (p := ⟨w.heap.size, 1, none⟩) hlt).trans h1.2⟩
          have hlt8 : w.heap.size < w8.drew.heap.size := by have := hN.size; omega
          have hW1lt : w.heap.size < W1.heap.size := by omega
          clear HN hbd8
          have HG1 : Hid (∀ w', TabR w' lb r m → Calls Tryd.prog 61 #[.pointer (some ⟨lb, 0, none⟩), .agg #[.int .i64 qs, .int .i64 qm]] w' fun e w'' => e = .returned (.int .i64 ((mget m (qs, qm)).getD 0)) ∧ Below w'.heap.size w' w'') := fun w' h => tabGet_calls h.cmap h.map qs qm HW.out.1.1 HW.out.1.2
          have HG2 : Hid (∀ w', Arr w' (lb + 1) 561 (lossF m) → Calls Tryd.prog 62 #[.pointer (some ⟨lb + 1, 0, none⟩), .int .i64 qs, .int .i64 qm] w' fun e w'' => e = .returned (.int .i64 ((mget m (qs, qm)).getD 0)) ∧ w' = w'') := fun w' h => lossGet_calls h HOK.out.keys qs qm
          generalize (mget m (qs, qm)).getD 0 = gv at HG1 HG2
          go_wp2_with fail
          go_region_held3 (fun wq => wq.cell? ⟨w.heap.size, 0, none⟩ = some (.int .i64 qs) ∧ wq.cell? ⟨w.heap.size, 1, none⟩ = some (.int .i64 qm))
            (exact ⟨hAC.out.1, hAC.out.2⟩)
            (first
              | (go_at_call 61; go_loud (refine (HG1.out _ HL.out).mono ?_); go_loud (rintro e w9 ⟨rfl, hb⟩; have hs9 := hb.size; have HL := Lib.hid (HL.out.below hb); have HY := Lib.hid (HY.out.below (by omega) hb); have hN := bbase hN hb; have hAC := Lib.hid (And.intro ((hb.cell (p := ⟨w.heap.size, 0, none⟩) (by omega)).trans hAC.out.1) ((hb.cell (p := ⟨w.heap.size, 1, none⟩) (by omega)).trans hAC.out.2))))
              | (go_at_call 62; go_loud (refine (HG2.out _ HY.out).mono ?_); go_loud (rintro e w10 ⟨rfl, rfl⟩))
              | (go_at_call 19; (first | refine (HI2.out _ (HE.out.below (bbase HB.out hN))).mono ?_ | refine (HIC.out _ (HE.out.below (bbase HB.out hN))).mono ?_ | refine (HIT.out _ (HE.out.below (bbase HB.out hN))).mono ?_); go_loud (rintro e w11 ⟨rfl, hb⟩; have hltq := Nat.lt_of_lt_of_le hW1lt hN.size; have hN := bbase hN hb; have hAC := Lib.hid (And.intro ((hb.cell (p := ⟨w.heap.size, 0, none⟩) hltq).trans hAC.out.1) ((hb.cell (p := ⟨w.heap.size, 1, none⟩) hltq).trans hAC.out.2)))))
          go_wp2_with fail
          go_ret
          exact ⟨rfl, bbase HB.out hN⟩
end Go.Proofs.YtehacchacgfjlaaDoor
