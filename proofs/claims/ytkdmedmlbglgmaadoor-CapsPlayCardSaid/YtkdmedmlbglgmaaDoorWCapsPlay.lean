/- The walk of pledgelaw16.CapsPlay: it returns true, and writes nothing that was there. (Written by gen_capsplay.py.) -/
import Derived.Test.YtkdmedmlbglgmaaDoorCapsPlay
import Derived.Deep.RegionHeld3
import Derived.Deep.DeepCutAuto
namespace Go.Proofs.YtkdmedmlbglgmaaDoor
open Go.Maps
open Go Go.RowKit
set_option linter.unusedSimpArgs false
set_option linter.unusedVariables false

theorem zeroCaps : (#[.int .i64 0, .int .i64 0, .int .i64 0, .int .i64 0, .int .i64 0, .int .i64 0, .int .i64 0, .int .i64 0, .int .i64 0, .int .i64 0, .int .i64 0, .int .i64 0, .int .i64 0, .int .i64 0, .int .i64 0, .int .i64 0, .int .i64 0, .int .i64 0, .int .i64 0, .int .i64 0, .int .i64 0, .int .i64 0, .int .i64 0, .int .i64 0, .int .i64 0, .int .i64 0, .int .i64 0, .int .i64 0, .int .i64 0, .int .i64 0, .int .i64 0, .int .i64 0, .int .i64 0, .int .i64 0, .int .i64 0, .int .i64 0, .int .i64 0, .int .i64 0, .int .i64 0, .int .i64 0, .int .i64 0, .int .i64 0, .int .i64 0, .int .i64 0, .int .i64 0, .int .i64 0, .int .i64 0] : Array Value).toList = (List.range 47).map (capsF []) := by kernel_rfl

set_option maxHeartbeats 16000000 in
set_option maxRecDepth 100000 in
theorem walk_CapsPlay {p : Nat → Addr} {w : World} (hE : Errs (List.range 21) w.heap.size p w) (a : Option Addr) (len cap : Nat) (zs : List Int) (c : Option Addr) (len1 cap1 : Nat) (ys : List Int) (qs qm : Int) (hz : IsRows 3 w a len cap zs) (hy : IsRows 4 w c len1 cap1 ys) (l1 : -9223372036854775808 ≤ qs) (u1 : qs ≤ 9223372036854775807) (l2 : -9223372036854775808 ≤ qm) (u2 : qm ≤ 9223372036854775807) :
    Calls Tryd.prog 4 #[.slice a len cap, .slice c len1 cap1, pairV (qs, qm)] w fun e w' => e = .returned (.bool true) ∧ Below w.heap.size w w' := by
  have HE := Lib.hid hE; clear hE
  have HB0 : Below w.heap.size w (w.alloc (Obj.cells #[.int .i64 qs, .int .i64 qm] 30)) := by (repeat (first | exact Below.refl _ _ | assumption | refine Below.drew ?_ | refine below_many ?_ _ | refine Below.alloc ?_ (by first | (simp; done) | (simp; omega) | omega) _ | refine Below.setCell ?_ (by first | (simp; done) | (simp; omega) | omega) _))
  by_cases hl : 40 < len
  · have hl1 : decide ((40 : Int) < len) = true := decide_eq_true (by omega)
    clear hz hy hl
    go_enter Tryd.func4, Tryd.ntmps4
    go_wp2_with fail
    refine (first16_calls (HE.out.below HB0) (by decide) (by decide)).mono ?_
    rintro e w1 ⟨rfl, hb1⟩
    go_wp2_with fail
    go_ret
    exact ⟨rfl, bbase HB0 hb1⟩
  have hl1 : decide ((40 : Int) < len) = false := decide_eq_false (by omega)
  by_cases hk : 40 < len1
  · have hk1 : decide ((40 : Int) < len1) = true := decide_eq_true (by omega)
    clear hz hy hl hk
    go_enter Tryd.func4, Tryd.ntmps4
    go_wp2_with fail
    refine (first16_calls (HE.out.below HB0) (by decide) (by decide)).mono ?_
    rintro e w1 ⟨rfl, hb1⟩
    go_wp2_with fail
    go_ret
    exact ⟨rfl, bbase HB0 hb1⟩
  have hk1 : decide ((40 : Int) < len1) = false := decide_eq_false (by omega)
  have HZ := Lib.hid hz
  have HV := Lib.hid (lines_of_rows hy)
  have HVL := Lib.hid (show (rowsL ys len1).length ≤ 1000 by rw [rowsL_len]; omega)
  generalize rowsL ys len1 = L at HV HVL
  have HW := Lib.hid (And.intro (i64wf l1 u1) (i64wf l2 u2))
  clear hz hy l1 u1 l2 u2
  go_enter Tryd.func4, Tryd.ntmps4
  go_wp2_with fail
  refine (first16_calls (HE.out.below HB0) (by decide) (by decide)).mono ?_
  rintro e w1 ⟨rfl, hb1⟩
  obtain ⟨W1, hW1⟩ : ∃ W1, W1 = w.alloc (Obj.cells #[.int .i64 qs, .int .i64 qm] 30) := ⟨_, rfl⟩
  have HA : Hid (W1.heap.size = w.heap.size + 1 ∧ W1.cell? ⟨w.heap.size, 0, none⟩ = some (.int .i64 qs) ∧ W1.cell? ⟨w.heap.size, 1, none⟩ = some (.int .i64 qm)) := by
    rw [hW1]; exact ⟨by simp, by go_simp, by go_simp⟩
  rw [← hW1] at hb1 HB0
  have hs1 := hb1.size
  go_wp2_with fail
  obtain ⟨w2, hw2⟩ : ∃ w2, w2 = (w1.alloc (Obj.cells #[Value.map none] 25)).alloc (Obj.cells #[.int .i64 0, .int .i64 0, .int .i64 0, .int .i64 0, .int .i64 0, .int .i64 0, .int .i64 0, .int .i64 0, .int .i64 0, .int .i64 0, .int .i64 0, .int .i64 0, .int .i64 0, .int .i64 0, .int .i64 0, .int .i64 0, .int .i64 0, .int .i64 0, .int .i64 0, .int .i64 0, .int .i64 0, .int .i64 0, .int .i64 0, .int .i64 0, .int .i64 0, .int .i64 0, .int .i64 0, .int .i64 0, .int .i64 0, .int .i64 0, .int .i64 0, .int .i64 0, .int .i64 0, .int .i64 0, .int .i64 0, .int .i64 0, .int .i64 0, .int .i64 0, .int .i64 0, .int .i64 0, .int .i64 0, .int .i64 0, .int .i64 0, .int .i64 0, .int .i64 0, .int .i64 0, .int .i64 0] 43) := ⟨_, rfl⟩
  have HL0 : Hid (CapsR w2 w1.heap.size none []) := by
    rw [hw2]
    exact (capsR_new w1).below ((Below.refl _ _).alloc (Nat.le_refl _) _)
  have HY0 : Hid (Arr w2 (w1.heap.size + 1) 47 (capsF [])) := by
    rw [hw2]
    have := arr_new (w1.alloc (Obj.cells #[Value.map none] 25)) _ 43 47 _ zeroCaps
    rwa [World.size_alloc] at this
  have HN0 : Hid (Below W1.heap.size W1 w2) := by rw [hw2]; unfold Hid; (repeat (first | exact Below.refl _ _ | assumption | refine Below.drew ?_ | refine below_many ?_ _ | refine Below.alloc ?_ (by first | (simp; done) | (simp; omega) | omega) _ | refine Below.setCell ?_ (by first | (simp; done) | (simp; omega) | omega) _))
  have hw2s : w1.heap.size + 2 ≤ w2.heap.size := by rw [hw2]; simp
  rw [← hw2]
  have HB := Lib.hid HB0
  have hW1s : W1.heap.size = w.heap.size + 1 := HA.out.1
  clear hw2 hb1 hW1 HB0
  generalize w1.heap.size = lb at HL0 HY0 hw2s hs1 ⊢
  go_loopw [10] (fun i wr => ∃ (k : Nat) (r : Option Nat), k ≤ len ∧ i = .int .i64 k ∧ Hid (CapsR wr lb r (lcHave zs k)) ∧ Hid (Arr wr (lb + 1) 47 (capsF (lcHave zs k))) ∧ Hid (Rok W1.heap.size lb (lb + 1) r) ∧ Hid (Below W1.heap.size W1 wr) ∧ lb + 2 ≤ wr.heap.size) (fun i _ => len - (intOf i).toNat)
  case atStart => exact ⟨0, none, by omega, rfl, HL0, HY0, (fun x hx => by cases hx), HN0, hw2s⟩
  case round =>
    obtain ⟨k, r, hkl0, rfl, hL, hY, hR, hN, hsw⟩ := hrel
    by_cases hkl : k < len
    · have hbw := bbase HB.out hN.out
      obtain ⟨b, off, rfl, hbl, hzl, hlc, hcm, hcell, hwf⟩ := HZ.out.open (by decide) (by omega)
      unfold maxLen at hcm
      have D0 := (hbw.cell (p := ⟨b, off + k * 3, none⟩) hbl).trans (hcell (k * 3) (by omega))
      have D1 := (hbw.cell (p := ⟨b, off + (k * 3 + 1), none⟩) hbl).trans (hcell (k * 3 + 1) (by omega))
      have D2 := (hbw.cell (p := ⟨b, off + (k * 3 + 2), none⟩) hbl).trans (hcell (k * 3 + 2) (by omega))
      rw [← Nat.add_assoc] at D1 D2
      have HN : Hid (lcHave zs (k + 1) = lset (lcHave zs k) (zs.getD (k * 3) 0) (zs.getD (k * 3 + 1) 0) (zs.getD (k * 3 + 2) 0)) := rfl
      generalize zs.getD (k * 3) 0 = x1 at D0 HN
      generalize zs.getD (k * 3 + 1) 0 = x2 at D1 HN
      generalize zs.getD (k * 3 + 2) 0 = x3 at D2 HN
      generalize lcHave zs k = m at hL hY HN
      clear hcell hwf HL0 HY0 HN0 hbw
      have hbd : Below wr.heap.size wr wr.drew := (Below.refl _ _).drew
      have HD : Hid (DRL wr.drew b (off + k * 3) x1 x2 x3) := (show DRL wr b (off + k * 3) x1 x2 x3 from ⟨D0, D1, D2⟩).below hbd
      have HL : Hid (CapsR wr.drew lb r m) := hL.out.below hbd
      have HY : Hid (Arr wr.drew (lb + 1) 47 (capsF m)) := hY.out.below (by omega) hbd
      have hN : Below W1.heap.size W1 wr.drew := bbase hN.out hbd
      have hsd : lb + 2 ≤ wr.drew.heap.size := hsw
      have HRl := Lib.hid hR.out
      have hbr : ∀ x, r = some x → x ≠ b := fun x hx e => by have := (hR.out x hx).1; omega
      have hbb : b ≠ lb ∧ b ≠ lb + 1 := by omega
      clear hL hY hR hbd D0 D1 D2
      have hkk : k * 3 + 3 ≤ len * 3 := by omega
      go_wp2_with fail
      go_region_held3 (fun wq => wq.cell? ⟨b, off + k * 3, none⟩ = some (.int .i64 x1) ∧ wq.cell? ⟨b, off + k * 3 + 1, none⟩ = some (.int .i64 x2) ∧ wq.cell? ⟨b, off + k * 3 + 2, none⟩ = some (.int .i64 x3))
        (exact ⟨HD.out.c0, HD.out.c1, HD.out.c2⟩)
        (first
          | (go_at_call 9; go_loud (refine (capsR_set (HE.out.below (bbase HB.out hN)) (by decide) HL.out x1 x2 x3).mono ?_); go_loud (rintro e w3 ⟨rfl, r3, hL3, hr3, hk3⟩; have hs3 := hk3.size; have hN0 := hN; have HD := Lib.hid (HD.out.keep hk3 (fun h => h.elim (fun h => hbb.1 h) (fun h => hbr _ h rfl))); have HY := Lib.hid (HY.out.keep (by decide) hk3 (fun h => h.elim (fun h => by omega) (fun h => (HRl.out _ h).2.1 rfl))); have hN := hN.trans (hk3.below hN.size (fun j hj h => h.elim (fun h => by omega) (fun h => by have := (HRl.out _ h).1; omega))); have HL := Lib.hid hL3; have HR3 := Lib.hid (HRl.out.next hr3 hN0.size (by omega) (by omega))))
          | (go_at_call 13; go_loud (refine (caps_refset HY.out x1 x2 x3).mono ?_); go_loud (rintro e w4 ⟨rfl, hY4, hk4⟩; have hs4 := hk4.size; have HD := Lib.hid (HD.out.keep hk4 (fun h => hbb.2 h)); have HL := Lib.hid (HL.out.keep hk4 (fun h => by omega) (fun x hx h => (HR3.out x hx).2.1 h)); have HY := Lib.hid hY4; have hN := hN.trans (hk4.below hN.size (fun j hj h => by omega))))
          | (go_at_call 12; go_loud (refine (is_okV (HE.out.below (bbase HB.out hN)) (limOK x1 x2 x3)).mono ?_); go_loud (rintro e w5 ⟨rfl, hb⟩; have hs5 := hb.size; have HD := Lib.hid (HD.out.below hb); have HL := Lib.hid (HL.out.below hb); have HY := Lib.hid (HY.out.below (by omega) hb); have hN := bbase hN hb)))
      go_wp2_with fail
      go_roundw
      case rel => exact ⟨k + 1, r3, by omega, by go_num, by rw [HN.out]; exact HL, by rw [HN.out]; exact HY, HR3, hN, by omega⟩
      case measure => simp [intOf]; omega
    · obtain rfl : k = len := by omega
      obtain ⟨hOK, hlen⟩ := lcHave_ok zs k
      generalize lcHave zs k = m at hL hY hlen hOK
      clear HZ HL0 HY0 HN0
      go_wp2_with fail
      refine (allL_calls hL.out.cmap hL.out.map (by omega)).mono ?_
      rintro e w3 ⟨v, rfl, ⟨ad, cp, rfl, hlc, hcm, hcells⟩, hb3⟩
      have HL := Lib.hid (hL.out.below hb3)
      have HY := Lib.hid (hY.out.below (by omega) hb3)
      have HN := Lib.hid (bbase hN.out hb3)
      have hsz3 := hb3.size
      have hsw3 : lb + 2 ≤ w3.heap.size := by omega
      clear hL hY hR hN hb3 hsz3 hsw hlen
      obtain ⟨K, hK⟩ : ∃ K, K = m.map (·.1) := ⟨_, rfl⟩
      have hnd := hOK.nd
      rw [← hK] at hnd hcells hlc ⊢
      have hKb : ∀ x ∈ K, 1 ≤ x.1 ∧ x.1 ≤ 3 ∧ 1 ≤ x.2 ∧ x.2 ≤ 32 := fun x hx => by
        rw [hK] at hx
        exact hOK.key hx
      have hmem : ∀ c b, (c, b) ∈ K ↔ lim m c b ≠ 0 := fun c b => by rw [hK]; exact hOK.mem c b
      have hKl : (sortP K).length = K.length := sortP_length K
      have hSN : ∀ c b, (c, b) ∈ K → (sortP K)[cntP K c b]? = some (c, b) := fun c b h => sortP_next hnd h
      have HG := Lib.hid (And.intro hKb (And.intro hmem (And.intro hSN (And.intro hcells (And.intro hnd hKl)))))
      have HOK := Lib.hid hOK
      clear hK hKb hmem hSN hcells hnd hOK
      generalize (sortP K).length = nn at hKl hlc ⊢
      unfold maxLen at hcm
      have h00 : cntP K 1 1 = 0 := cntP_start (fun x hx => ⟨(HG.out.1 x hx).1, (HG.out.1 x hx).2.2.1⟩)
      have H00 := Lib.hid h00
      have HNN := Lib.hid hKl
      clear h00 hKl
      go_wp2_with fail
      go_loop [13, 12] (fun cv nv => ∃ c : Int, 1 ≤ c ∧ c ≤ 4 ∧ cv = .int .i64 c ∧ nv = .int .i64 ((cntP K c 1 : Nat) : Int)) (fun cv _ => (4 - intOf cv).toNat)
      case atStart => exact ⟨1, by omega, by omega, rfl, by rw [H00.out]; rfl⟩
      case round =>
        obtain ⟨c, hc1, hc7, rfl, rfl⟩ := hrel
        by_cases hc : c ≤ 3
        · go_wp2_with fail
          go_loop [14, 12] (fun bv nv => ∃ b : Int, 1 ≤ b ∧ b ≤ 33 ∧ bv = .int .i64 b ∧ nv = .int .i64 ((cntP K c b : Nat) : Int)) (fun bv _ => (33 - intOf bv).toNat)
          case atStart => exact ⟨1, by omega, by omega, rfl, rfl⟩
          case round =>
            obtain ⟨b, hb0, hb6, rfl, rfl⟩ := hrel
            by_cases hb : b ≤ 32
            · have HGet := Lib.hid (capsRefGet_calls HY.out HOK.out.keys c b)
              have hsc := Lib.hid (cntP_succ HG.out.2.2.2.2.1 c b)
              by_cases hm : (c, b) ∈ K
              · have hne := (HG.out.2.1 c b).1 hm
                have hsn := HG.out.2.2.1 c b hm
                have hnl := (List.getElem?_eq_some_iff.1 hsn).1
                obtain ⟨g, rfl, hg1, hg2, hcs⟩ := HG.out.2.2.2.1.resolve_left (fun e => by rw [e] at hsn; simp at hsn)
                obtain ⟨q0, q1⟩ := hcs _ _ hsn
                have hln : cntP K c b < nn := by have h1 := sortP_length K; have h2 := HNN.out; omega
                rw [if_pos hm] at hsc
                generalize lim m c b = lv at HGet hne
                have hnb : (lv == 0) = false := by simpa using hne
                clear hsn hnl hcs hne
                generalize cntP K c b = n at *
                go_wp2_with fail
                refine HGet.out.mono ?_
                rintro e _ ⟨rfl, rfl⟩
                go_wp2_with fail
                go_round
                case rel => exact ⟨b + 1, by omega, by omega, rfl, by rw [hsc.out]; go_num⟩
                case measure => simp [intOf]; omega
              · have hz0 : lim m c b = 0 := by
                  cases Int.decEq (lim m c b) 0 with
                  | isTrue h => exact h
                  | isFalse h => exact absurd ((HG.out.2.1 c b).2 h) hm
                rw [hz0] at HGet
                rw [if_neg hm, Nat.add_zero] at hsc
                clear hz0
                generalize hcn : cntP K c b = n at *
                go_wp2_with fail
                refine HGet.out.mono ?_
                rintro e _ ⟨rfl, rfl⟩
                go_wp2_with fail
                go_round
                case rel => exact ⟨b + 1, by omega, by omega, rfl, by rw [hsc.out]⟩
                case measure => simp [intOf]; omega
            · obtain rfl : b = 33 := by omega
              have hrow : Hid (cntP K (c + 1) 1 = cntP K c 33) := cntP_row (fun x hx => by have := HG.out.1 x hx; omega) c
              go_wp2_with fail
              go_round
              case rel => exact ⟨c + 1, by omega, by omega, rfl, by rw [hrow.out]⟩
              case measure => simp [intOf]; omega
        · obtain rfl : c = 4 := by omega
          have hend : cntP K 4 1 = nn := by
            rw [cntP_end (fun x hx => by have := HG.out.1 x hx; omega)]
            exact HNN.out.symm
          rw [hend]
          clear hend
          have HV3 := Lib.hid (HV.out.below (bbase HB.out HN.out))
          obtain ⟨sv, fc, fb, fq, hS1, hS2⟩ := sum_both (HE.out.below (bbase HB.out HN.out)) HL.out HV3.out
          have HS1 := Lib.hid hS1
          have HS2 := Lib.hid hS2
          clear hS1 hS2
          go_wp2_with fail
          refine HS1.out.mono ?_
          rintro e w4 ⟨E, rfl, hb, hSame⟩
          have hs4 := hb.size
          have HL := Lib.hid (HL.out.below hb)
          have HY := Lib.hid (HY.out.below (by omega) hb)
          have HN := Lib.hid (bbase HN.out hb)
          have HV3 := Lib.hid (HV3.out.below hb)
          have HSame := Lib.hid hSame
          clear hb HS1 hSame
          go_wp2_with fail
          refine (other_calls HV3.out HVL.out).mono ?_
          rintro e w5 ⟨hb, u, rfl, hu⟩
          have hs5 := hb.size
          have HL := Lib.hid (HL.out.below hb)
          have HY := Lib.hid (HY.out.below (by omega) hb)
          have HN := Lib.hid (bbase HN.out hb)
          have HR5 := Lib.hid (HS2.out w5 (lb + 1) u HY.out hu.lines)
          have HB45 := Lib.hid hb
          clear hb HV3 hu
          go_wp2_with fail
          refine HR5.out.mono ?_
          rintro e w6 ⟨rfl, hb⟩
          have hs6 := hb.size
          have HL := Lib.hid (HL.out.below hb)
          have HY := Lib.hid (HY.out.below (by omega) hb)
          have HN := Lib.hid (bbase HN.out hb)
          have HB46 := Lib.hid (bbase HB45.out hb)
          clear hb HR5 HB45
          obtain ⟨w8, hw8⟩ : ∃ w8, w8 = w6.alloc (Obj.cells #[.int .i64 fc, .bool fb, .int .i64 fq] 50) := ⟨_, rfl⟩
          have hbd8 : Below w6.heap.size w6 w8.drew := by rw [hw8]; exact ((Below.refl _ _).alloc (Nat.le_refl _) _).drew
          have HFl : Hid (w8.drew.cell? ⟨w6.heap.size, 0, none⟩ = some (.int .i64 fc) ∧ w8.drew.cell? ⟨w6.heap.size, 1, none⟩ = some (.bool fb) ∧ w8.drew.cell? ⟨w6.heap.size, 2, none⟩ = some (.int .i64 fq) ∧ w6.heap.size < w8.drew.heap.size) := by
            rw [hw8]; exact ⟨by go_simp, by go_simp, by go_simp, by simp⟩
          have HL := Lib.hid (HL.out.below hbd8)
          have HY := Lib.hid (HY.out.below (by omega) hbd8)
          have hN := bbase HN.out hbd8
          have hB4 := bbase HB46.out hbd8
          have hsd : lb + 2 ≤ w8.drew.heap.size := by have := hbd8.size; omega
          have hW1lt : w.heap.size < W1.heap.size := by omega
          have hAC : Hid (w8.drew.cell? ⟨w.heap.size, 0, none⟩ = some (.int .i64 qs) ∧ w8.drew.cell? ⟨w.heap.size, 1, none⟩ = some (.int .i64 qm)) := by
            have h1 := HA.out.2
            exact ⟨(hN.cell (p := ⟨w.heap.size, 0, none⟩) hW1lt).trans h1.1, (hN.cell (p := ⟨w.heap.size, 1, none⟩) hW1lt).trans h1.2⟩
          have hlt6 : w.heap.size < w6.heap.size := by have := HN.out.size; omega
          clear HN hbd8 HB46
          have HG1 : Hid (∀ w', CapsR w' lb r m → Calls Tryd.prog 17 #[.pointer (some ⟨lb, 0, none⟩), .agg #[.int .i64 qs, .int .i64 qm]] w' fun e w'' => e = .returned (.int .i64 (lim m qs qm)) ∧ Below w'.heap.size w' w'') := fun w' h => capsGet_calls h.cmap h.map qs qm HW.out.1 HW.out.2
          have HG2 : Hid (∀ w', Arr w' (lb + 1) 47 (capsF m) → Calls Tryd.prog 14 #[.pointer (some ⟨lb + 1, 0, none⟩), .int .i64 qs, .int .i64 qm] w' fun e w'' => e = .returned (.int .i64 (lim m qs qm)) ∧ w' = w'') := fun w' h => capsRefGet_calls h HOK.out.keys qs qm
          generalize lim m qs qm = gv at HG1 HG2
          go_wp2_with fail
          rw [← hw8]
          clear hw8
          generalize hfl : w6.heap.size = fl at *
          clear hfl
          go_wp2_with fail
          go_region_held3 (fun wq => wq.cell? ⟨w.heap.size, 0, none⟩ = some (.int .i64 qs) ∧ wq.cell? ⟨w.heap.size, 1, none⟩ = some (.int .i64 qm) ∧ wq.cell? ⟨fl, 0, none⟩ = some (.int .i64 fc) ∧ wq.cell? ⟨fl, 1, none⟩ = some (.bool fb) ∧ wq.cell? ⟨fl, 2, none⟩ = some (.int .i64 fq))
            (exact ⟨hAC.out.1, hAC.out.2, HFl.out.1, HFl.out.2.1, HFl.out.2.2.1⟩)
            (first
              | (go_at_call 17; go_loud (refine (HG1.out _ HL.out).mono ?_); go_loud (rintro e w9 ⟨rfl, hb⟩; have hs9 := hb.size; have HL := Lib.hid (HL.out.below hb); have HY := Lib.hid (HY.out.below (by omega) hb); have hB4 := bbase hB4 hb; have hltq := Nat.lt_of_lt_of_le hW1lt hN.size; have hN := bbase hN hb; have hAC := Lib.hid (And.intro ((hb.cell (p := ⟨w.heap.size, 0, none⟩) hltq).trans hAC.out.1) ((hb.cell (p := ⟨w.heap.size, 1, none⟩) hltq).trans hAC.out.2)); have HFl := Lib.hid (And.intro ((hb.cell (p := ⟨fl, 0, none⟩) HFl.out.2.2.2).trans HFl.out.1) (And.intro ((hb.cell (p := ⟨fl, 1, none⟩) HFl.out.2.2.2).trans HFl.out.2.1) (And.intro ((hb.cell (p := ⟨fl, 2, none⟩) HFl.out.2.2.2).trans HFl.out.2.2.1) (Nat.lt_of_lt_of_le HFl.out.2.2.2 hb.size))))))
              | (go_at_call 14; go_loud (refine (HG2.out _ HY.out).mono ?_); go_loud (rintro e w10 ⟨rfl, rfl⟩))
              | (go_at_call 18; go_loud (refine (HSame.out _ hB4).mono ?_); go_loud (rintro e w11 ⟨rfl, hb⟩; have hltq := Nat.lt_of_lt_of_le hW1lt hN.size; have hN := bbase hN hb; have hAC := Lib.hid (And.intro ((hb.cell (p := ⟨w.heap.size, 0, none⟩) hltq).trans hAC.out.1) ((hb.cell (p := ⟨w.heap.size, 1, none⟩) hltq).trans hAC.out.2)); have HFl := Lib.hid (And.intro ((hb.cell (p := ⟨fl, 0, none⟩) HFl.out.2.2.2).trans HFl.out.1) (And.intro ((hb.cell (p := ⟨fl, 1, none⟩) HFl.out.2.2.2).trans HFl.out.2.1) (And.intro ((hb.cell (p := ⟨fl, 2, none⟩) HFl.out.2.2.2).trans HFl.out.2.2.1) (Nat.lt_of_lt_of_le HFl.out.2.2.2 hb.size)))))))
          go_wp2_with fail
          go_ret
          exact ⟨rfl, bbase HB.out hN⟩
end Go.Proofs.YtkdmedmlbglgmaaDoor
