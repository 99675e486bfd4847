/- (*pledgeref10.Caps).Sum of lines that may be: what it returns. -/
import Derived.Test.YtkdmedmlbglgmaaDoorCapsRef
import Derived.Test.YtkdmedmlbglgmaaDoorCapsSum
import Derived.Test.YtkdmedmlbglgmaaDoorCapsPlayLaw
import Derived.Test.YtkdmedmlbglgmaaDoorAt
namespace Go.Proofs.YtkdmedmlbglgmaaDoor
open Go.Maps
open Go Go.RowKit
set_option linter.unusedSimpArgs false
set_option linter.unusedVariables false

/-- What the reference's Sum returns of lines that may be. -/
def refV : Option Int → Value
  | some n => .tuple #[.int .i64 n, faultV 0 false 0]
  | none => .tuple #[.int .i64 0, faultV 104 false 0]

set_option maxHeartbeats 16000000 in
set_option maxRecDepth 100000 in
theorem capsRefSum_ok {w : World} {g : Nat} {m : Lims} (h : Arr w g 47 (capsF m)) {v : Value} {L : List (G × Int)} (hL : LinesAt w v L) (hf : ∀ x ∈ L, fitsL x = true) :
    Calls Tryd.prog 15 #[.pointer (some ⟨g, 0, none⟩), v] w fun e w' => e = .returned (refV (capSum m L)) ∧ Below w.heap.size w w' := by
  have hg := h.lt (by decide)
  generalize hR : capSum m L = R
  have HR := Lib.hid hR
  clear hR
  obtain ⟨W0, hW0⟩ : ∃ W0, W0 = w.alloc (.cells #[.int .i64 0, .bool false, .int .i64 0] 50) := ⟨_, rfl⟩
  have hb0 : Below w.heap.size w W0 := by rw [hW0]; exact (Below.refl _ w).alloc (Nat.le_refl _) _
  have HA : Hid (Arr W0 g 47 (capsF m)) := h.below hg hb0
  have HL : Hid (LinesAt W0 v L) := hL.below hb0
  have HF := Lib.hid hf
  have HB0 := Lib.hid hb0
  have HZ : Hid (W0.heap.size = w.heap.size + 1 ∧ W0.cell? ⟨w.heap.size, 0, none⟩ = some (.int .i64 0) ∧ W0.cell? ⟨w.heap.size, 1, none⟩ = some (.bool false) ∧ W0.cell? ⟨w.heap.size, 2, none⟩ = some (.int .i64 0) ∧ W0.frozen? ⟨w.heap.size, 0, none⟩ = false ∧ W0.frozen? ⟨w.heap.size, 1, none⟩ = false ∧ W0.frozen? ⟨w.heap.size, 2, none⟩ = false) := by
    rw [hW0]; exact ⟨by simp, by go_simp, by go_simp, by go_simp, by go_simp, by go_simp, by go_simp⟩
  obtain ⟨a, cap, rfl, hcap, hmx, hcells⟩ := HL.out
  have HC := Lib.hid hcells
  unfold maxLen at hmx
  clear h hL hf hcells hb0
  go_enter Tryd.func15, Tryd.ntmps15
  go_wp2_with fail
  rw [← hW0]
  have HW0 := Lib.hid hW0
  clear hW0
  go_loop [6] (fun i => ∃ k : Nat, k ≤ L.length ∧ i = .int .i64 k) (fun i => L.length - (intOf i).toNat)
  case atStart => exact ⟨0, Nat.zero_le _, rfl⟩
  case round =>
    obtain ⟨k, hk, rfl⟩ := hrel
    by_cases hkl : k < L.length
    · obtain ⟨b, off, rfl, hb, hcell⟩ := HC.out.resolve_left (by intro e; rw [e] at hkl; simp at hkl)
      obtain ⟨y, hy⟩ : ∃ y, L[k]? = some y := ⟨_, List.getElem?_eq_getElem hkl⟩
      obtain ⟨d0, d1, d2, d3⟩ := hcell k y hy
      have hfy := HF.out y (List.mem_of_getElem? hy)
      obtain ⟨⟨y1, y2, y3⟩, y4⟩ := y
      simp only [fitsL, decide_eq_true_eq] at hfy
      simp only at d0 d1 d2 d3
      have f1 : decide (1 ≤ y1 ∧ y1 ≤ 6) = true := decide_eq_true hfy.1
      have f2 : decide (1 ≤ y2 ∧ y2 ≤ 6) = true := decide_eq_true hfy.2.1
      have f3 : decide (0 ≤ y3 ∧ y3 ≤ 32) = true := decide_eq_true hfy.2.2.1
      have f4 : isAmt y4 = true := decide_eq_true hfy.2.2.2
      clear hcell hfy hy
      go_wp2_with fail
      refine (in10I_calls _ _ _ _).mono ?_
      rintro e _ ⟨rfl, rfl⟩
      rw [f1]
      go_wp2_with fail
      refine (in10I_calls _ _ _ _).mono ?_
      rintro e _ ⟨rfl, rfl⟩
      rw [f2]
      go_wp2_with fail
      refine (in10I_calls _ _ _ _).mono ?_
      rintro e _ ⟨rfl, rfl⟩
      rw [f3]
      go_wp2_with fail
      refine (amount10I_calls _ _).mono ?_
      rintro e _ ⟨rfl, rfl⟩
      rw [f4]
      go_wp2_with fail
      go_round
      case rel => exact ⟨k + 1, by omega, by go_num⟩
      case measure => simp [intOf]; omega
    · obtain rfl : k = L.length := by omega
      go_wp2_with fail
      go_loop [9, 7, 8] (fun cv av okv => ∃ (k : Nat) (n : Int), k ≤ 6 ∧ cv = .int .i64 ((k : Int) + 1) ∧ av = .int .i64 n ∧ okv = .bool true ∧ Hid (CLS m L k n)) (fun cv _ _ => 7 - (intOf cv).toNat)
      case atStart => exact ⟨0, 0, by omega, rfl, rfl, rfl, CLS.start m L⟩
      case round =>
        obtain ⟨k, n, hk6, rfl, rfl, rfl, hcls⟩ := hrel
        by_cases hk : k < 6
        · go_wp2_with fail
          go_loop [11, 10, 8] (fun mv bv okv => ∃ (j : Nat) (ok : Bool) (n : Int), j ≤ 6 ∧ mv = .int .i64 ((j : Int) + 1) ∧ bv = .int .i64 n ∧ okv = .bool ok ∧ Hid (RScur m L ((k : Int) + 1) j ok n)) (fun mv _ _ => 7 - (intOf mv).toNat)
          case atStart => exact ⟨0, true, 0, by omega, rfl, rfl, rfl, RScur.start _ _ _⟩
          case round =>
            obtain ⟨j, ok0, nc, hj6, rfl, rfl, rfl, hcur⟩ := hrel
            by_cases hj : j < 6
            · go_wp2_with fail
              go_loop [13, 12, 8] (fun iv bv okv => ∃ (i : Nat) (ok : Bool) (n : Int), i ≤ 33 ∧ iv = .int .i64 (i : Int) ∧ bv = .int .i64 n ∧ okv = .bool ok ∧ Hid (RSiss m L ((k : Int) + 1) ((j : Int) + 1) i ok n) ∧ Hid (ok0 = false → ok = false)) (fun iv _ _ => 33 - (intOf iv).toNat)
              case atStart => exact ⟨0, ok0, 0, by omega, rfl, rfl, rfl, RSiss.start _ _ _ _ ok0 hcur.out.none, fun h => h⟩
              case round =>
                obtain ⟨i, ok1, ni, hi33, rfl, rfl, rfl, hiss, hdead⟩ := hrel
                by_cases hi : i < 33
                · go_wp2_with fail
                  go_loop [15, 14, 8] (fun xv nv okv => ∃ (q : Nat) (ok : Bool) (n : Int), q ≤ L.length ∧ xv = .int .i64 (q : Int) ∧ nv = .int .i64 n ∧ okv = .bool ok ∧ Hid (RSline m L ((k : Int) + 1, (j : Int) + 1, (i : Int)) q ok n) ∧ Hid (ok1 = false → ok = false)) (fun xv _ _ => L.length - (intOf xv).toNat)
                  case atStart =>
                    refine ⟨0, ok1, 0, by omega, rfl, rfl, rfl, ?_, fun h => h⟩
                    cases ok1 with
                    | true => exact RSline.start _ _ _
                    | false => exact RSline.off _ _ (hiss.out.none rfl)
                  case round =>
                    obtain ⟨q, ok2, nl, hql, rfl, rfl, rfl, hline, hdead2⟩ := hrel
                    have hnb := hline.out.bd
                    by_cases hq : q < L.length
                    · cases ok2 with
                      | true =>
                        obtain ⟨b, off, rfl, hb, hcell⟩ := HC.out.resolve_left (by intro e; rw [e] at hq; simp at hq)
                        obtain ⟨y, hy⟩ : ∃ y, L[q]? = some y := ⟨_, List.getElem?_eq_getElem hq⟩
                        obtain ⟨d0, d1, d2, d3⟩ := hcell q y hy
                        have hfy := HF.out y (List.mem_of_getElem? hy)
                        have HY := Lib.hid hy
                        have hd3 : Hid (ok1 = false → decide (nl + y.2 ≤ MAXM) = false) := fun h => absurd (hdead2.out h) (by simp)
                        by_cases hyx : y.1 = ((k : Int) + 1, (j : Int) + 1, (i : Int))
                        · have hadd := Lib.hid (RSline.add HF.out hline.out HY.out hyx)
                          have hy4 : 0 ≤ y.2 ∧ y.2 ≤ 1000000000000000 := by
                            simp only [fitsL, decide_eq_true_eq] at hfy
                            exact hfy.2.2.2
                          obtain ⟨⟨y1, y2, y3⟩, y4⟩ := y
                          simp only [Prod.mk.injEq] at hyx
                          obtain ⟨rfl, rfl, rfl⟩ := hyx
                          simp only at d0 d1 d2 d3 hadd hd3 hy4
                          unfold MAXM at hnb
                          clear hcell hfy hy HY
                          go_wp2_with fail
                          refine (sumR_calls nl y4 (by omega) (by omega) (by omega) (by omega) _).mono ?_
                          rintro e _ ⟨rfl, rfl⟩
                          go_wp2_with fail
                          go_round
                          case rel => exact ⟨q + 1, _, _, by omega, by go_num, rfl, rfl, hadd, hd3⟩
                          case measure => simp [intOf]; omega
                        · have hskip := Lib.hid (RSline.skip hline.out HY.out hyx)
                          obtain ⟨⟨y1, y2, y3⟩, y4⟩ := y
                          simp only at d0 d1 d2 d3
                          clear hcell hfy hy HY
                          by_cases e1 : y1 = (k : Int) + 1
                          · by_cases e2 : y2 = (j : Int) + 1
                            · have e3 : ¬ y3 = (i : Int) := fun e3 => hyx (by rw [e1, e2, e3])
                              have b1 : (y1 == (k : Int) + 1) = true := beq_iff_eq.2 e1
                              have b2 : (y2 == (j : Int) + 1) = true := beq_iff_eq.2 e2
                              have b3 : (y3 == (i : Int)) = false := beq_eq_false_iff_ne.2 e3
                              clear e1 e2 e3 hyx
                              go_wp2_with fail
                              go_round
                              case rel => exact ⟨q + 1, true, nl, by omega, by go_num, rfl, rfl, hskip, hdead2⟩
                              case measure => simp [intOf]; omega
                            · have b1 : (y1 == (k : Int) + 1) = true := beq_iff_eq.2 e1
                              have b2 : (y2 == (j : Int) + 1) = false := beq_eq_false_iff_ne.2 e2
                              clear e1 e2 hyx
                              go_wp2_with fail
                              go_round
                              case rel => exact ⟨q + 1, true, nl, by omega, by go_num, rfl, rfl, hskip, hdead2⟩
                              case measure => simp [intOf]; omega
                          · have b1 : (y1 == (k : Int) + 1) = false := beq_eq_false_iff_ne.2 e1
                            clear e1 hyx
                            go_wp2_with fail
                            go_round
                            case rel => exact ⟨q + 1, true, nl, by omega, by go_num, rfl, rfl, hskip, hdead2⟩
                            case measure => simp [intOf]; omega
                      | false =>
                        have hfull := hline.out.full (fun h => by cases h)
                        have hx := HA.out.cell (14 + i) (by omega)
                        have hcf := capsF_3 m (k := (i : Int)) (by omega)
                        rw [Int.toNat_natCast] at hcf
                        rw [hcf] at hx
                        clear hcf
                        have hib := hiss.out.bd
                        have hqi : 0 ≤ (i : Int) ∧ (i : Int) < 33 := by omega
                        have hqj : (i : Int) < 33 := by omega
                        have hc0 := cut_nonneg (lim m 3 (i : Int)) hnb.1
                        have hc1 := cut_le (lim m 3 (i : Int)) nl
                        have hstep := RSiss.step HF.out hi hiss.out hfull (fun _ => rfl)
                        have HD3 : Hid (ok0 = false → false = false) := fun h => (fun _ => rfl) (hdead.out h)
                        unfold MAXM at hnb hib
                        go_wp2_with fail
                        refine (mostR_calls nl _ _).mono ?_
                        rintro e _ ⟨rfl, rfl⟩
                        generalize hct : cut (lim m 3 (i : Int)) nl = ct at hc0 hc1 hstep
                        have HCT := Lib.hid hct
                        clear hct
                        go_wp2_with fail
                        refine (sumR_calls ni ct (by omega) (by omega) (by omega) (by omega) _).mono ?_
                        rintro e _ ⟨rfl, rfl⟩
                        by_cases hle : ni + ct ≤ 1000000000000000
                        · rw [show decide (ni + ct ≤ MAXM) = true from decide_eq_true hle, Bool.true_and] at hstep
                          rw [decide_eq_true hle]
                          have HS := Lib.hid hstep
                          clear hstep hle
                          go_wp2_with fail
                          go_round
                          case rel => exact ⟨i + 1, false, _, by omega, by go_num, rfl, rfl, HS, fun _ => rfl⟩
                          case measure => simp [intOf]; omega
                        · rw [show decide (ni + ct ≤ MAXM) = false from decide_eq_false hle, Bool.false_and] at hstep
                          rw [decide_eq_false hle]
                          have HS := Lib.hid hstep
                          clear hstep hle
                          go_wp2_with fail
                          go_round
                          case rel => exact ⟨i + 1, false, _, by omega, by go_num, rfl, rfl, HS, fun _ => rfl⟩
                          case measure => simp [intOf]; omega
                    · obtain rfl : q = L.length := by omega
                      have hfull := hline.out.full (fun _ => rfl)
                      have hx := HA.out.cell (14 + i) (by omega)
                      have hcf := capsF_3 m (k := (i : Int)) (by omega)
                      rw [Int.toNat_natCast] at hcf
                      rw [hcf] at hx
                      clear hcf
                      have hib := hiss.out.bd
                      have hqi : 0 ≤ (i : Int) ∧ (i : Int) < 33 := by omega
                      have hqj : (i : Int) < 33 := by omega
                      have hc0 := cut_nonneg (lim m 3 (i : Int)) hnb.1
                      have hc1 := cut_le (lim m 3 (i : Int)) nl
                      have hstep := RSiss.step HF.out hi hiss.out hfull hdead2.out
                      have HD3 : Hid (ok0 = false → ok2 = false) := fun h => hdead2.out (hdead.out h)
                      unfold MAXM at hnb hib
                      go_wp2_with fail
                      refine (mostR_calls nl _ _).mono ?_
                      rintro e _ ⟨rfl, rfl⟩
                      generalize hct : cut (lim m 3 (i : Int)) nl = ct at hc0 hc1 hstep
                      have HCT := Lib.hid hct
                      clear hct
                      go_wp2_with fail
                      refine (sumR_calls ni ct (by omega) (by omega) (by omega) (by omega) _).mono ?_
                      rintro e _ ⟨rfl, rfl⟩
                      by_cases hle : ni + ct ≤ 1000000000000000
                      · rw [show decide (ni + ct ≤ MAXM) = true from decide_eq_true hle, Bool.true_and] at hstep
                        rw [decide_eq_true hle]
                        have HS := Lib.hid hstep
                        clear hstep hle
                        go_wp2_with fail
                        go_round
                        case rel => exact ⟨i + 1, ok2, _, by omega, by go_num, rfl, rfl, HS, HD3⟩
                        case measure => simp [intOf]; omega
                      · rw [show decide (ni + ct ≤ MAXM) = false from decide_eq_false hle, Bool.false_and] at hstep
                        rw [decide_eq_false hle]
                        have HS := Lib.hid hstep
                        clear hstep hle
                        go_wp2_with fail
                        go_round
                        case rel => exact ⟨i + 1, false, _, by omega, by go_num, rfl, rfl, HS, fun _ => rfl⟩
                        case measure => simp [intOf]; omega
                · obtain rfl : i = 33 := by omega
                  have hx := HA.out.cell (7 + (j + 1)) (by omega)
                  have hcf := capsF_2 m (k := (j : Int) + 1) (by omega) (by omega)
                  rw [show ((j : Int) + 1).toNat = j + 1 by omega] at hcf
                  rw [hcf] at hx
                  clear hcf
                  have hib := hiss.out.bd
                  have hcb := hcur.out.bd
                  have hqi : 0 ≤ (j : Int) + 1 ∧ (j : Int) + 1 < 7 := by omega
                  have hqj : (j : Int) + 1 < 7 := by omega
                  have hqt : ((j : Int) + 1).toNat = j + 1 := by omega
                  have hc0 := cut_nonneg (lim m 2 ((j : Int) + 1)) hib.1
                  have hc1 := cut_le (lim m 2 ((j : Int) + 1)) ni
                  have hstep := RScur.step HF.out hj hcur.out hiss.out hdead.out
                  unfold MAXM at hib hcb
                  go_wp2_with fail
                  refine (mostR_calls ni _ _).mono ?_
                  rintro e _ ⟨rfl, rfl⟩
                  generalize hct : cut (lim m 2 ((j : Int) + 1)) ni = ct at hc0 hc1 hstep
                  have HCT := Lib.hid hct
                  clear hct
                  go_wp2_with fail
                  refine (sumR_calls nc ct (by omega) (by omega) (by omega) (by omega) _).mono ?_
                  rintro e _ ⟨rfl, rfl⟩
                  by_cases hle : nc + ct ≤ 1000000000000000
                  · rw [show decide (nc + ct ≤ MAXM) = true from decide_eq_true hle, Bool.true_and] at hstep
                    rw [decide_eq_true hle]
                    have HS := Lib.hid hstep
                    clear hstep hle
                    go_wp2_with fail
                    go_round
                    case rel => exact ⟨j + 1, ok1, _, by omega, by go_num, rfl, rfl, HS⟩
                    case measure => simp [intOf]; omega
                  · rw [show decide (nc + ct ≤ MAXM) = false from decide_eq_false hle, Bool.false_and] at hstep
                    rw [decide_eq_false hle]
                    have HS := Lib.hid hstep
                    clear hstep hle
                    go_wp2_with fail
                    go_round
                    case rel => exact ⟨j + 1, false, _, by omega, by go_num, rfl, rfl, HS⟩
                    case measure => simp [intOf]; omega
            · obtain rfl : j = 6 := by omega
              have hx := HA.out.cell (k + 1) (by omega)
              have hcf := capsF_1 m (k := (k : Int) + 1) (by omega) (by omega)
              rw [show ((k : Int) + 1).toNat = k + 1 by omega] at hcf
              rw [hcf] at hx
              clear hcf
              have hcb := hcur.out.bd
              have hnn := hcls.out.2.2
              have hqi : 0 ≤ (k : Int) + 1 ∧ (k : Int) + 1 < 7 := by omega
              have hqj : (k : Int) + 1 < 7 := by omega
              have hqt : ((k : Int) + 1).toNat = k + 1 := by omega
              have hc0 := cut_nonneg (lim m 1 ((k : Int) + 1)) hcb.1
              have hc1 := cut_le (lim m 1 ((k : Int) + 1)) nc
              have hstep := CLS.step HF.out hk hcls.out hcur.out
              unfold MAXM at hnn hcb
              go_wp2_with fail
              refine (mostR_calls nc _ _).mono ?_
              rintro e _ ⟨rfl, rfl⟩
              generalize hct : cut (lim m 1 ((k : Int) + 1)) nc = ct at hc0 hc1 hstep
              have HCT := Lib.hid hct
              clear hct
              go_wp2_with fail
              refine (sumR_calls n ct (by omega) (by omega) (by omega) (by omega) _).mono ?_
              rintro e _ ⟨rfl, rfl⟩
              rcases hstep with ⟨hee, hcn⟩ | ⟨hee, hno⟩
              · simp only [Bool.and_eq_true] at hee
                obtain ⟨hle, rfl⟩ := hee
                rw [show decide (n + ct ≤ 1000000000000000) = true from hle]
                have HS := Lib.hid hcn
                clear hcn hle
                go_wp2_with fail
                go_round
                case rel => exact ⟨k + 1, _, by omega, by go_num, rfl, rfl, HS⟩
                case measure => simp [intOf]; omega
              · have hRn := HR.out.symm.trans hno
                subst hRn
                obtain ⟨hz, z0, z1, z2, g0, g1, g2⟩ := HZ.out
                have hlt : w.heap.size < W0.heap.size := by omega
                have hee2 : (decide (n + ct ≤ 1000000000000000) && ok0) = false := hee
                clear hee
                generalize hdd : decide (n + ct ≤ 1000000000000000) = dd at hee2
                clear hdd
                have hdo : (dd = false) ∨ (dd = true ∧ ok0 = false) := by
                  cases dd with
                  | false => exact .inl rfl
                  | true => exact .inr ⟨rfl, by simpa using hee2⟩
                clear hee2
                rcases hdo with rfl | ⟨rfl, rfl⟩
                all_goals
                  go_wp2_with fail
                  refine (bare_calls 104 _).mono ?_
                  rintro e w5 ⟨rfl, hb⟩
                  obtain ⟨hc, hfz⟩ := bcell hb
                  have hlt5 : w.heap.size < w5.heap.size := Nat.lt_of_lt_of_le hlt hb.size
                  have HB5 := Lib.hid (HB0.out.trans (hb.mono HB0.out.size))
                  clear hb
                  go_wp2_with fail
                  refine bodyPost_ret (v := .tuple #[.int .i64 0, faultV 104 false 0]) (by simp [results, Tryd.results15, go_sem, hc, hlt, z0, z1, z2]) rfl ⟨rfl, ((HB5.out.setCell (p := ⟨w.heap.size, 0, none⟩) (Nat.le_refl _) _).setCell (p := ⟨w.heap.size, 1, none⟩) (Nat.le_refl _) _).setCell (p := ⟨w.heap.size, 2, none⟩) (Nat.le_refl _) _⟩
        · obtain rfl : k = 6 := by omega
          have hdone := CLS.done HF.out hcls.out
          have hRn := HR.out.symm.trans hdone
          subst hRn
          obtain ⟨hz, z0, z1, z2, g0, g1, g2⟩ := HZ.out
          have hlt : w.heap.size < W0.heap.size := by omega
          clear hdone
          go_wp2_with fail
          refine (none_calls _).mono ?_
          rintro e w5 ⟨rfl, hb⟩
          obtain ⟨hc, hfz⟩ := bcell hb
          have hlt5 : w.heap.size < w5.heap.size := Nat.lt_of_lt_of_le hlt hb.size
          have HB5 := Lib.hid (HB0.out.trans (hb.mono HB0.out.size))
          clear hb
          go_wp2_with fail
          refine bodyPost_ret (v := .tuple #[.int .i64 n, faultV 0 false 0]) (by simp [results, Tryd.results15, go_sem, hc, hlt, z0, z1, z2]) rfl ⟨rfl, ((HB5.out.setCell (p := ⟨w.heap.size, 0, none⟩) (Nat.le_refl _) _).setCell (p := ⟨w.heap.size, 1, none⟩) (Nat.le_refl _) _).setCell (p := ⟨w.heap.size, 2, none⟩) (Nat.le_refl _) _⟩
end Go.Proofs.YtkdmedmlbglgmaaDoor
