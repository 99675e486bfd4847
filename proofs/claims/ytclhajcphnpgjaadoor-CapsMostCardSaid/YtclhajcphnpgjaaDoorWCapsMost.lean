/- The walk of pledgelaw16.CapsMost: it returns true, and writes nothing that was there. -/
import Derived.Test.YtclhajcphnpgjaaDoorWCapsOrder
namespace Go.Proofs.YtclhajcphnpgjaaDoor
open Go.Maps
open Go Go.RowKit
set_option linter.unusedSimpArgs false
set_option linter.unusedVariables false

/-- What counts of one class's lines. -/
def clsV (m : Lims) (L : List (G × Int)) (c : Int) : Int := sumAll (lev3 m (L.filter fun p => decide (p.1.1 = c)))
def clsSum (m : Lims) (L : List (G × Int)) (q : Nat) : Int := ((List.range q).map fun i : Nat => clsV m L ((i : Int) + 1)).sum
theorem clsSum_succ (m : Lims) (L : List (G × Int)) (q : Nat) : clsSum m L (q + 1) = clsSum m L q + clsV m L ((q : Int) + 1) := by simp [clsSum, List.range_succ]
theorem clsSum_all (m : Lims) {L : List (G × Int)} (h : ∀ p ∈ L, fitsL p = true) : clsSum m L 6 = sumAll (lev3 m L) := by
  rw [capM_classes m h]
  unfold clsSum sumD rM
  rw [List.map_map]
  rfl
theorem filter_all_le {L : List (G × Int)} (h : ∀ p ∈ L, 0 ≤ p.2) (f : G × Int → Bool) : sumAll (L.filter f) ≤ sumAll L := by
  induction L with
  | nil => exact Int.le_refl _
  | cons x L ih =>
    have h1 := h x (List.mem_cons_self ..)
    have h2 := ih fun y hy => h y (List.mem_cons_of_mem _ hy)
    rw [List.filter_cons, sumAll_cons]
    split
    · rw [sumAll_cons]; omega
    · omega
theorem cls_law (m : Lims) {L : List (G × Int)} (h : ∀ x ∈ L, fitsL x = true ∧ x.2 < 1000000) (hl : L.length ≤ 20) {c : Int} (hc : 1 ≤ c ∧ c ≤ 6) :
    capR m (L.filter fun p => decide (p.1.1 = c)) = .ok (clsV m L c) ∧ 0 ≤ clsV m L c ∧ clsV m L c ≤ 20000000 ∧ (0 < lim m 1 c → clsV m L c ≤ lim m 1 c) := by
  have hs := (small_all h).2
  have hf : ∀ q ∈ L, fitsL q = true := fun q hq => (h q hq).1
  have hfn := fits_nonneg hf
  have h' : ∀ p ∈ L.filter (fun p => decide (p.1.1 = c)), fitsL p = true := fun p hp => hf p (List.mem_filter.1 hp).1
  have hle := filter_all_le hfn (fun p => decide (p.1.1 = c))
  have h3 := lev3_all m (L.filter fun p => decide (p.1.1 = c))
  have h4 := sumAll_nonneg (lev3_nonneg m (fits_nonneg h'))
  refine ⟨?_, h4, ?_, ?_⟩
  · rw [small_capR m h' (by omega)]; rfl
  · unfold clsV; omega
  · intro hp
    unfold clsV
    rw [capM_class m hf (mem_rM.2 hc)]
    unfold cut
    rw [if_pos hp]
    omega
theorem most_law (m : Lims) {L : List (G × Int)} (h : ∀ x ∈ L, fitsL x = true ∧ x.2 < 1000000) (hl : L.length ≤ 20) {x : G × Int} (hx : L[0]? = some x) :
    ∃ a b, capR m L = .ok a ∧ capR m (L.drop 1) = .ok b ∧ capR [] L = .ok (sumAll L) ∧ a ≤ sumAll L ∧ b ≤ a ∧ a - b ≤ x.2 ∧ 0 ≤ b ∧ sumAll L ≤ 20000000 ∧ a = sumAll (lev3 m L) := by
  have hs := (small_all h).2
  have hf : ∀ q ∈ L, fitsL q = true := fun q hq => (h q hq).1
  have hd : ∀ q ∈ L.drop 1, fitsL q = true := fun q hq => hf q (List.mem_of_mem_drop hq)
  have hd2 := (small_all (L := L.drop 1) (fun q hq => h q (List.mem_of_mem_drop hq))).2
  have hL : L = x :: L.drop 1 := by
    cases L with
    | nil => simp at hx
    | cons y L => simp only [List.getElem?_cons_zero, Option.some.injEq] at hx; rw [hx]; rfl
  have hlen : (L.drop 1).length ≤ 20 := by rw [List.length_drop]; omega
  have hm := capM_more m (p := x) (L := L.drop 1) (by rw [← hL]; exact hf)
  rw [← hL] at hm
  refine ⟨sumAll (lev3 m L), sumAll (lev3 m (L.drop 1)), small_capR m hf (by omega), small_capR m hd (by omega), ?_, lev3_all m L, hm.1, hm.2, sumAll_nonneg (lev3_nonneg m (fits_nonneg hd)), by omega, rfl⟩
  rw [small_capR [] hf (by omega), lev3_none]
theorem clsSum_bd (m : Lims) {L : List (G × Int)} (h : ∀ x ∈ L, fitsL x = true ∧ x.2 < 1000000) (hl : L.length ≤ 20) : ∀ q : Nat, q ≤ 6 → 0 ≤ clsSum m L q ∧ clsSum m L q ≤ 20000000 * (q : Int)
  | 0, _ => by simp [clsSum]
  | q + 1, hq => by
    have ih := clsSum_bd m h hl q (by omega)
    obtain ⟨_, h1, h2, _⟩ := cls_law m h hl (c := (q : Int) + 1) (by omega)
    rw [clsSum_succ]
    omega
theorem filter_take_yes {L : List (G × Int)} {k : Nat} {x : G × Int} (h : L[k]? = some x) {f : G × Int → Bool} (hf : f x = true) : (L.take (k + 1)).filter f = (L.take k).filter f ++ [x] := by
  rw [take_snocL h, List.filter_append]; simp [hf]
theorem filter_take_no {L : List (G × Int)} {k : Nat} {x : G × Int} (h : L[k]? = some x) {f : G × Int → Bool} (hf : f x = false) : (L.take (k + 1)).filter f = (L.take k).filter f := by
  rw [take_snocL h, List.filter_append]; simp [hf]
theorem filter_take_len {L : List (G × Int)} {n : Nat} (hl : L.length ≤ n) (k : Nat) (f : G × Int → Bool) : ((L.take k).filter f).length ≤ n :=
  Nat.le_trans (List.length_filter_le _ _) (by rw [List.length_take]; omega)

theorem sumAll_take {L : List (G × Int)} {k : Nat} {x : G × Int} (h : L[k]? = some x) : sumAll (L.take (k + 1)) = sumAll (L.take k) + x.2 := by
  rw [take_snocL h, sumAll_append, sumAll_cons, sumAll_nil]; omega

set_option maxHeartbeats 8000000 in
set_option maxRecDepth 100000 in
theorem walk_CapsMost {p : Nat → Addr} {w : World} (hE : Errs [2, 3] w.heap.size p w) (a : Option Addr) (len cap : Nat) (zs : List Int) (c : Option Addr) (len1 cap1 : Nat) (ys : List Int) (hz : IsRows 3 w a len cap zs) (hy : IsRows 4 w c len1 cap1 ys) :
    Calls Tryd.prog 7 #[.slice a len cap, .slice c len1 cap1] w fun e w' => e = .returned (.bool true) ∧ Below w.heap.size w w' := by
  have HE := Lib.hid hE; clear hE
  by_cases hl : 20 < len
  · have hl1 : decide ((20 : Int) < len) = true := decide_eq_true (by omega)
    clear hz hy hl
    go_enter Tryd.func7, Tryd.ntmps7
    go_wp2_with fail
    refine (first16_calls HE.out (by decide) (by decide)).mono ?_
    rintro e w1 ⟨rfl, hb1⟩
    go_wp2_with fail
    go_ret
    exact ⟨rfl, hb1⟩
  by_cases hk : 20 < len1
  · have hl1 : decide ((20 : Int) < len) = false := decide_eq_false (by omega)
    have hk1 : decide ((20 : Int) < len1) = true := decide_eq_true (by omega)
    clear hz hy hl hk
    go_enter Tryd.func7, Tryd.ntmps7
    go_wp2_with fail
    refine (first16_calls HE.out (by decide) (by decide)).mono ?_
    rintro e w1 ⟨rfl, hb1⟩
    go_wp2_with fail
    go_ret
    exact ⟨rfl, hb1⟩
  by_cases hk0 : len1 = 0
  · have hl1 : decide ((20 : Int) < len) = false := decide_eq_false (by omega)
    subst hk0
    clear hz hy hl hk
    go_enter Tryd.func7, Tryd.ntmps7
    go_wp2_with fail
    refine (first16_calls HE.out (by decide) (by decide)).mono ?_
    rintro e w1 ⟨rfl, hb1⟩
    go_wp2_with fail
    go_ret
    exact ⟨rfl, hb1⟩
  have hl1 : decide ((20 : Int) < len) = false := decide_eq_false (by omega)
  have hk1 : decide ((20 : Int) < len1) = false := decide_eq_false (by omega)
  have hl2 : len ≤ 20 := by omega
  have hk2 : len1 ≤ 20 := by omega
  have hk3 : 0 < len1 := by omega
  have hk4 : ((len1 : Int) == 0) = false := by simp; omega
  clear hl hk
  have HZ := Lib.hid hz
  have HY := Lib.hid hy
  clear hz hy
  go_enter Tryd.func7, Tryd.ntmps7
  go_wp2_with fail
  refine (first16_calls HE.out (by decide) (by decide)).mono ?_
  rintro e w1 ⟨rfl, hb1⟩
  have hs1 := hb1.size
  go_wp2_with fail
  have HT1 : Hid (CapsTab (w1.heap.size + 2) ((w1.alloc (Obj.cells #[.map none] 44)).alloc (Obj.cells #[.map none] 44)) w1.heap.size 0 []) := (caps_new (w1.heap.size + 2) w1).below (by (repeat (first | exact Below.refl _ _ | assumption | refine Below.drew ?_ | refine below_many ?_ _ | refine Below.alloc ?_ (by first | (simp; done) | (simp; omega) | omega) _ | refine Below.setCell ?_ (by first | (simp; done) | (simp; omega) | omega) _)))
  have HB2 : Hid (Below w.heap.size w ((w1.alloc (Obj.cells #[.map none] 44)).alloc (Obj.cells #[.map none] 44))) := by unfold Hid; (repeat (first | exact Below.refl _ _ | assumption | refine Below.drew ?_ | refine below_many ?_ _ | refine Below.alloc ?_ (by first | (simp; done) | (simp; omega) | omega) _ | refine Below.setCell ?_ (by first | (simp; done) | (simp; omega) | omega) _))
  have hN1 : ((w1.alloc (Obj.cells #[.map none] 44)).alloc (Obj.cells #[.map none] 44)).cell? ⟨w1.heap.size + 1, 0, none⟩ = some (.map none) := by go_simp
  generalize hw2 : (w1.alloc (Obj.cells #[.map none] 44)).alloc (Obj.cells #[.map none] 44) = w2 at HT1 HB2 hN1 ⊢
  have hsw : w.heap.size ≤ w1.heap.size := hs1
  generalize htb' : w1.heap.size = tb at hs1 HT1 hN1 hsw ⊢
  clear hw2 hb1
  go_loopw [8] (fun i wr => ∃ k : Nat, k ≤ len ∧ i = .int .i64 k ∧ Hid (CapsTab (tb + 2) wr tb 0 (limsL zs k)) ∧ Hid (Below w.heap.size w wr) ∧ wr.cell? ⟨tb + 1, 0, none⟩ = some (.map none)) (fun i _ => len - (intOf i).toNat)
  case atStart => exact ⟨0, Nat.zero_le _, rfl, HT1, HB2, hN1⟩
  case round =>
    obtain ⟨k, hk, rfl, hT, hB, hN⟩ := hrel
    by_cases hkl : k < len
    · obtain ⟨b, off, rfl, hb, hlz, hlc, hcm, hcell, hwf⟩ := HZ.out.open (by decide) (by omega)
      have hx0 : wr.cell? ⟨b, off + k * 3, none⟩ = some (.int .i64 (zs.getD (k * 3) 0)) := (hB.out.cell (p := ⟨b, off + k * 3, none⟩) hb).trans (hcell (k * 3) (by omega))
      have hx1 : wr.cell? ⟨b, off + k * 3 + 1, none⟩ = some (.int .i64 (zs.getD (k * 3 + 1) 0)) := (hB.out.cell (p := ⟨b, off + (k * 3 + 1), none⟩) hb).trans (hcell (k * 3 + 1) (by omega))
      have hx2 : wr.cell? ⟨b, off + k * 3 + 2, none⟩ = some (.int .i64 (zs.getD (k * 3 + 2) 0)) := (hB.out.cell (p := ⟨b, off + (k * 3 + 2), none⟩) hb).trans (hcell (k * 3 + 2) (by omega))
      have HM : Hid (limsL zs (k + 1) = lset (limsL zs k) (zs.getD (k * 3) 0) (zs.getD (k * 3 + 1) 0) (zs.getD (k * 3 + 2) 0)) := rfl
      clear hcell hwf
      generalize zs.getD (k * 3) 0 = y0 at hx0 HM
      generalize zs.getD (k * 3 + 1) 0 = y1 at hx1 HM
      generalize zs.getD (k * 3 + 2) 0 = y2 at hx2 HM
      go_wp2_with fail
      (refine wp_region_still_tail 10 (by kernel_rfl) (by kernel_rfl) ?_; simp only [List.take_succ_cons, List.take_zero, List.drop_succ_cons, List.drop_zero]; change wpStill _ _ (World.drew _) _ _ _; (repeat still_step); refine wpStill_nil ?_; change wpList _ _ _ _ _ (World.drew _))
      go_wp2_with fail
      have hsr := hB.out.size
      have hBd : Below w.heap.size w wr.drew := hB.out.drew
      refine (caps_set (HE.out.below hBd) (by decide) (hT.out.below (Below.drew (Below.refl _ _))) (by have := World.block_lt_of_cell? wr _ hN; simp only at this; simp; omega) y0 y1 y2).mono ?_
      rintro e w3 ⟨rfl, hT3, hk3'⟩
      have HB3 : Hid (Below w.heap.size w w3) := hBd.trans (hk3'.below hBd.size (fun x hx e => by omega))
      have HT3 : Hid (CapsTab (tb + 2) w3 tb 0 (limsL zs (k + 1))) := by unfold Hid; rw [HM.out]; exact hT3
      have hN3 : w3.cell? ⟨tb + 1, 0, none⟩ = some (.map none) := (hk3'.cell (x := ⟨tb + 1, 0, none⟩) (World.block_lt_of_cell? wr _ hN) (by simp only; omega)).trans hN
      clear hT3 hk3' hT hB hBd hN
      generalize limE p y0 y1 y2 = le
      go_wp2_with fail
      go_roundw
      case rel => exact ⟨k + 1, by omega, by go_num, HT3, HB3, hN3⟩
      case measure => simp [intOf]; omega
    · obtain rfl : k = len := by omega
      have hBr := hB.out
      have hsr := hBr.size
      have HTa := Lib.hid hT.out.at
      have HN := Lib.hid hN
      clear hT hB HT1 HB2 HZ hN hN1
      generalize limsL zs k = lm at HTa
      go_wp2_with fail
      refine (right_calls c len1 cap1 ys (HY.out.below hBr) hk2).mono ?_
      rintro e w4 ⟨hb4, v, rfl, hO⟩
      have hlen := rightL_len ys len1
      have hfit := rightL_fits ys len1
      generalize rightL ys len1 = L at hO hlen hfit
      obtain ⟨g, cap2, rfl, hg1, hg2, hg3, hg4, hg5, hg6⟩ := hO.open (by intro e; rw [e] at hlen; simp at hlen; omega)
      rw [hlen] at hg3 ⊢
      unfold maxLen at hg4
      have HN4 : Hid (w4.cell? ⟨tb + 1, 0, none⟩ = some (.map none)) := (hb4.cell (p := ⟨tb + 1, 0, none⟩) (World.block_lt_of_cell? wr _ HN.out)).trans HN.out
      have hB4 := hBr.trans (hb4.mono hsr)
      have hs4 := hB4.size
      have HT4 := Lib.hid (HTa.out.below hb4)
      have HNT : Hid (CapsAt w4 (tb + 1) 0 []) := ⟨none, HN4.out, .inl ⟨rfl, rfl⟩⟩
      have HLn := hO.lines
      rw [hlen] at HLn
      have HLn4 := Lib.hid HLn
      have HC : Hid (∀ i x, L[i]? = some x → w4.cell? ⟨g, i * 4, none⟩ = some (.int .i64 x.1.1) ∧ w4.cell? ⟨g, i * 4 + 1, none⟩ = some (.int .i64 x.1.2.1) ∧ w4.cell? ⟨g, i * 4 + 2, none⟩ = some (.int .i64 x.1.2.2) ∧ w4.cell? ⟨g, i * 4 + 3, none⟩ = some (.int .i64 x.2)) := fun i x hx => by
        obtain ⟨h0, h1, h2, h3⟩ := lineCells_get L i x hx
        exact ⟨hg5 _ _ h0, hg5 _ _ h1, hg5 _ _ h2, hg5 _ _ h3⟩
      have HF := Lib.hid hfit
      have HLen := Lib.hid hlen
      obtain ⟨x, hx⟩ : ∃ x, L[0]? = some x := ⟨_, List.getElem?_eq_getElem (by omega)⟩
      obtain ⟨va, vb, hv1, hv2, hv3, hle1, hle2, hle3, hle4, hle5, hva⟩ := most_law lm hfit (by omega) hx
      have HC0 := Lib.hid (HC.out 0 x hx).2.2.2
      have HV := Lib.hid (And.intro hv1 (And.intro hv2 (And.intro hv3 hva)))
      generalize x.2 = x4 at HC0 hle3
      clear hO hg5 hg6 hlen hfit hb4 HTa hBr hsr HLn HY hg1 HN HN4 hv1 hv2 hv3 hva hx x
      go_wp2_with fail
      go_loop [11, 10] (fun i u => ∃ q : Nat, q ≤ len1 ∧ i = .int .i64 q ∧ u = .int .i64 (sumAll (L.take q))) (fun i _ => len1 - (intOf i).toNat)
      case atStart => exact ⟨0, Nat.zero_le _, rfl, rfl⟩
      case round =>
        obtain ⟨q, hq, rfl, rfl⟩ := hrel
        have hbd := small_all (L := L.take q) (fun y hy => HF.out y (List.mem_of_mem_take hy))
        have hql : (L.take q).length ≤ 20 := by rw [List.length_take]; have := HLen.out; omega
        by_cases hq1 : q < len1
        · obtain ⟨y, hy⟩ : ∃ y, L[q]? = some y := ⟨_, List.getElem?_eq_getElem (by rw [HLen.out]; exact hq1)⟩
          have d3 := (HC.out q y hy).2.2.2
          have HS := Lib.hid (sumAll_take hy)
          have hyf := HF.out y (List.mem_of_getElem? hy)
          have hy0 := fits_nonneg (L := [y]) (fun z hz => by rw [List.mem_singleton.1 hz]; exact hyf.1) y (List.mem_singleton.2 rfl)
          have hy1 := hyf.2
          generalize y.2 = y4 at d3 HS hy0 hy1
          generalize sumAll (L.take q) = S at hbd HS ⊢
          have hw : IntKind.i64.wrap (S + y4) = S + y4 := IntWalk.i64_in _ (by omega)
          clear hy hyf y
          go_wp2_with fail
          go_round
          case rel => exact ⟨q + 1, by omega, by go_num, by rw [HS.out]⟩
          case measure => simp [intOf]; omega
        · obtain rfl : q = len1 := by omega
          have hS : sumAll (L.take q) = sumAll L := by rw [← HLen.out, List.take_length]
          rw [hS]
          clear hS hbd hql hq hq1
          generalize hSv : sumAll L = S at hle1 hle5
          have HSv := Lib.hid hSv
          clear hSv
          go_wp2_with fail
          refine (sum_calls (HE.out.below hB4) (by decide) HT4.out HLn4.out (fun y hy => (HF.out y hy).1)).mono ?_
          rintro e w5 ⟨rfl, hb5⟩
          rw [HV.out.1]
          simp only [resV]
          have hBz5 : Hid (Below w4.heap.size w4 w5) := hb5
          clear hb5
          have hf1 : ∀ y ∈ L.drop 1, fitsL y = true := fun y hy => (HF.out y (List.mem_of_mem_drop hy)).1
          have HF1 := Lib.hid hf1
          clear hf1
          have hq1' : (1 : Int) ≤ (q : Int) := by omega
          have hq1'' : (1 : Int) ≤ (cap2 : Int) := by omega
          have hwab : IntKind.i64.wrap (va - vb) = va - vb := IntWalk.i64_in _ (by omega)
          by_cases hcap : cap2 = 1
          · obtain rfl : q = 1 := by omega
            subst hcap
            have HLs : Hid (LinesAt w4 (.slice (some ⟨g, 0, none⟩) 0 0) (L.drop 1)) := by
              have : L.drop 1 = [] := List.eq_nil_of_length_eq_zero (by rw [List.length_drop, HLen.out])
              rw [this]
              exact ⟨_, _, rfl, by simp, by unfold maxLen; omega, .inl rfl⟩
            go_wp2_with fail
            refine (sum_calls (HE.out.below (hB4.trans (hBz5.out.mono hs4))) (by decide) (HT4.out.below hBz5.out) (HLs.out.below hBz5.out) HF1.out).mono ?_
            rintro e w6 ⟨rfl, hb6⟩
            rw [HV.out.2.1]
            simp only [resV]
            have hBz6 : Hid (Below w4.heap.size w4 w6) := hBz5.out.trans (hb6.mono hBz5.out.size)
            clear hb6 hBz5 HLs HF1
            go_wp2_with fail
            refine (sum_calls (HE.out.below (hB4.trans (hBz6.out.mono hs4))) (by decide) (HNT.out.below hBz6.out) (HLn4.out.below hBz6.out) (fun y hy => (HF.out y hy).1)).mono ?_
            rintro e w7 ⟨rfl, hb7⟩
            rw [HV.out.2.2.1, HSv.out]
            simp only [resV]
            have hBz7 : Hid (Below w4.heap.size w4 w7) := hBz6.out.trans (hb7.mono hBz6.out.size)
            have hc0 : w7.cell? ⟨g, 3, none⟩ = some (.int .i64 x4) := (hBz7.out.cell (p := ⟨g, 3, none⟩) hg2).trans HC0.out
            have hs7 := hBz7.out.size
            have hg7 : g < w7.heap.size := Nat.lt_of_lt_of_le hg2 hs7
            have HVa := Lib.hid HV.out.2.2.2
            have HC7 : Hid (∀ i x, L[i]? = some x → w7.cell? ⟨g, i * 4, none⟩ = some (.int .i64 x.1.1) ∧ w7.cell? ⟨g, i * 4 + 1, none⟩ = some (.int .i64 x.1.2.1) ∧ w7.cell? ⟨g, i * 4 + 2, none⟩ = some (.int .i64 x.1.2.2) ∧ w7.cell? ⟨g, i * 4 + 3, none⟩ = some (.int .i64 x.2)) := fun i x hx => by
              obtain ⟨h0, h1, h2, h3⟩ := HC.out i x hx
              exact ⟨(hBz7.out.cell (p := ⟨g, i * 4, none⟩) hg2).trans h0, (hBz7.out.cell (p := ⟨g, i * 4 + 1, none⟩) hg2).trans h1, (hBz7.out.cell (p := ⟨g, i * 4 + 2, none⟩) hg2).trans h2, (hBz7.out.cell (p := ⟨g, i * 4 + 3, none⟩) hg2).trans h3⟩
            have HT7 := Lib.hid (HT4.out.below hBz7.out)
            have hB7 := hB4.trans (hBz7.out.mono hs4)
            have hs07 := hB7.size
            clear hb7 hBz6 hBz7 HNT HLn4 HV HC HC0 HT4 hB4
            go_wp2_with fail
            go_loopw [19, 18] (fun i u wq => ∃ cl : Nat, cl ≤ 6 ∧ i = .int .i64 ((cl : Int) + 1) ∧ u = .int .i64 (clsSum lm L cl) ∧ Hid (Below w7.heap.size w7 wq)) (fun i _ _ => 7 - (intOf i).toNat)
            case atStart => exact ⟨0, Nat.zero_le _, rfl, rfl, Below.refl _ _⟩
            case round =>
              obtain ⟨cl, hcl, rfl, rfl, hBc⟩ := hrel
              have hcs := clsSum_bd lm HF.out (by have := HLen.out; omega) cl hcl
              by_cases hc6 : cl < 6
              · obtain ⟨wb, hwb⟩ : ∃ wb, wb = wr := ⟨_, rfl⟩
                subst hwb
                have hsb := hBc.out.size
                obtain ⟨hk1', hk2', hk3', hk4'⟩ := cls_law lm HF.out (by have := HLen.out; omega) (c := (cl : Int) + 1) (by omega)
                have HK1 := Lib.hid hk1'
                have HSC := Lib.hid (clsSum_succ lm L cl)
                generalize clsV lm L ((cl : Int) + 1) = nv at HK1 hk2' hk3' hk4' HSC
                generalize clsSum lm L cl = sv at hcs HSC ⊢
                have HK4 := Lib.hid hk4'
                have hws : IntKind.i64.wrap (sv + nv) = sv + nv := IntWalk.i64_in _ (by omega)
                have hwc : IntKind.i64.wrap ((cl : Int) + 1 + 1) = (cl : Int) + 1 + 1 := IntWalk.i64_in _ (by omega)
                have hcl6 : (cl : Int) + 1 ≤ 6 := by omega
                clear hk1' hk4'
                go_wp2_with fail
                go_loopw [21, 20] (fun i u wq => ∃ k : Nat, k ≤ 1 ∧ i = .int .i64 k ∧ Hid (OwnL 52 wb.heap.size wq u ((L.take k).filter fun p => decide (p.1.1 = (cl : Int) + 1))) ∧ Hid (Below wb.heap.size wb wq)) (fun i _ _ => 1 - (intOf i).toNat)
                case atStart => exact ⟨0, Nat.zero_le _, rfl, OwnL.nil _ _ _, Below.refl _ _⟩
                case round =>
                  obtain ⟨k, hk, rfl, hO, hBi⟩ := hrel
                  by_cases hkq : k < 1
                  · obtain ⟨y, hy⟩ : ∃ y, L[k]? = some y := ⟨_, List.getElem?_eq_getElem (by rw [HLen.out]; exact hkq)⟩
                    obtain ⟨e0, e1, e2, e3⟩ := HC7.out k y hy
                    have hBB : Hid (Below w7.heap.size w7 wr) := hBc.out.trans (hBi.out.mono hsb)
                    have d0 := (hBB.out.cell (p := ⟨g, k * 4, none⟩) hg7).trans e0
                    have d1 := (hBB.out.cell (p := ⟨g, k * 4 + 1, none⟩) hg7).trans e1
                    have d2 := (hBB.out.cell (p := ⟨g, k * 4 + 2, none⟩) hg7).trans e2
                    have d3 := (hBB.out.cell (p := ⟨g, k * 4 + 3, none⟩) hg7).trans e3
                    have hsi := hBi.out.size
                    have HY := Lib.hid hy
                    obtain ⟨⟨y1, y2, y3⟩, y4⟩ := y
                    try dsimp only at d0 d1 d2 d3
                    clear e0 e1 e2 e3 hy hBB
                    by_cases hyc : y1 = (cl : Int) + 1
                    · have HFy := Lib.hid (filter_take_yes HY.out (f := fun p => decide (p.1.1 = (cl : Int) + 1)) (by simpa using hyc))
                      subst hyc
                      go_wp2_with (at_builtin; refine wpList_appL rfl _ _ 41 rfl 52 Tryd.underlying41 (by rfl) infoLine wb.heap.size _ ((L.take k).filter fun p => decide (p.1.1 = (cl : Int) + 1)) [(((cl : Int) + 1, y2, y3), y4)] rfl (hO.out.alloc _) ⟨wr.heap.size, 0, none⟩ 1 1 rfl rfl ?c1 ?c2 ?c3 ?_)
                      case c1 => exact fun z u hz => cells_new wr _ _ z u hz
                      case c2 => have := filter_take_len (n := 20) (by have := HLen.out; omega) k (fun p : G × Int => decide (p.1.1 = (cl : Int) + 1)) (L := L); simp only [List.length_cons, List.length_nil]; omega
                      case c3 => simp; omega
                      intro v5 w10 hO10 hk10
                      have hbk := (hO.out.alloc (Obj.cells #[Value.int IntKind.i64 ((cl : Int) + 1), Value.int IntKind.i64 y2, Value.int IntKind.i64 y3, Value.int IntKind.i64 y4] 52)).block
                      have HB10 : Hid (Below wb.heap.size wb w10) := Below.trans (show Below wb.heap.size wb _ by have := hBi.out; (repeat (first | exact Below.refl _ _ | assumption | refine Below.drew ?_ | refine below_many ?_ _ | refine Below.alloc ?_ (by first | (simp; done) | (simp; omega) | omega) _ | refine Below.setCell ?_ (by first | (simp; done) | (simp; omega) | omega) _))) (hk10.below (by simp; omega) (fun z hz e => by have := (hbk z e).1; omega))
                      have HO10 : Hid (OwnL 52 wb.heap.size w10 v5 ((L.take (k + 1)).filter fun p => decide (p.1.1 = (cl : Int) + 1))) := by unfold Hid; rw [HFy.out]; exact hO10
                      clear hO10 hk10 hbk hO hBi d0 d1 d2 d3 hsi
                      go_wp2_with fail
                      go_roundw
                      case rel => exact ⟨k + 1, by omega, by go_num, HO10, HB10⟩
                      case measure => simp [intOf]; omega
                    · have HFy := Lib.hid (filter_take_no HY.out (f := fun p => decide (p.1.1 = (cl : Int) + 1)) (by simpa using hyc))
                      have HO10 : Hid (OwnL 52 wb.heap.size wr u20 ((L.take (k + 1)).filter fun p => decide (p.1.1 = (cl : Int) + 1))) := by unfold Hid; rw [HFy.out]; exact hO.out
                      clear hO
                      go_wp2_with fail
                      go_roundw
                      case rel => exact ⟨k + 1, by omega, by go_num, HO10, hBi⟩
                      case measure => simp [intOf]; omega
                  · have hkq' : k = 1 := by omega
                    have hO' := hO.out.lines
                    rw [hkq', show L.take 1 = L by rw [← HLen.out, List.take_length]] at hO'
                    have HLp := Lib.hid hO'
                    have hBB : Hid (Below w7.heap.size w7 wr) := hBc.out.trans (hBi.out.mono hsb)
                    have hff : ∀ y ∈ L.filter (fun p => decide (p.1.1 = (cl : Int) + 1)), fitsL y = true := fun y hy => (HF.out y (List.mem_filter.1 hy).1).1
                    have HFF := Lib.hid hff
                    have hkI : ¬ (k : Int) < (1 : Int) := by omega
                    clear hO hO' hBi hff hkq hk hkq'
                    go_wp2_with fail
                    refine (sum_calls (HE.out.below (hB7.trans (hBB.out.mono hs07))) (by decide) (HT7.out.below hBB.out) HLp.out HFF.out).mono ?_
                    rintro e w11 ⟨rfl, hb11⟩
                    rw [HK1.out]
                    simp only [resV]
                    have hBd : Hid (Below w7.heap.size w7 w11) := hBB.out.trans (hb11.mono hBB.out.size)
                    clear hb11 hBB HLp HFF
                    go_wp2_with fail
                    obtain ⟨rr, hrc, hrm⟩ := (HT7.out.below hBd.out).map
                    refine (capsGet_calls hrc hrm 1 ((cl : Int) + 1) (by decide) (i64wf (by omega) (by omega))).mono ?_
                    rintro e w12 ⟨rfl, hb12⟩
                    have HBe : Hid (Below w7.heap.size w7 w12) := hBd.out.trans (hb12.mono hBd.out.size)
                    clear hb12 hBd hrc hrm
                    have hk4' := HK4.out
                    generalize lim lm 1 ((cl : Int) + 1) = lv at hk4' HK4 ⊢
                    by_cases hlv : 0 < lv
                    · have hnl := hk4' hlv
                      clear hk4' HK4
                      go_wp2_with fail
                      go_roundw
                      case rel => exact ⟨cl + 1, by omega, by go_num, by rw [HSC.out], HBe⟩
                      case measure => simp [intOf]; omega
                    · clear hk4' HK4
                      go_wp2_with fail
                      go_roundw
                      case rel => exact ⟨cl + 1, by omega, by go_num, by rw [HSC.out], HBe⟩
                      case measure => simp [intOf]; omega
              · obtain rfl : cl = 6 := by omega
                have hall : clsSum lm L 6 = va := by rw [HVa.out]; exact clsSum_all lm (fun y hy => (HF.out y hy).1)
                have HBf : Hid (Below w.heap.size w wr) := hB7.trans (hBc.out.mono hs07)
                rw [hall]
                clear hall hcs hBc
                go_wp2_with fail
                go_ret
                exact ⟨by first | rfl | simp, HBf.out⟩
          · have HLs : Hid (LinesAt w4 (.slice (some ⟨g, 4, none⟩) (q - 1) (cap2 - 1)) (L.drop 1)) := by
              refine ⟨_, cap2 - 1, by rw [List.length_drop, HLen.out], by rw [List.length_drop, HLen.out]; omega, by unfold maxLen; omega, .inr ⟨g, 4, rfl, hg2, fun i x hx => ?_⟩⟩
              rw [List.getElem?_drop] at hx
              have h4 := HC.out _ _ hx
              rw [show (1 + i) * 4 = 4 + i * 4 by omega] at h4
              exact h4
            go_wp2_with fail
            refine (sum_calls (HE.out.below (hB4.trans (hBz5.out.mono hs4))) (by decide) (HT4.out.below hBz5.out) (HLs.out.below hBz5.out) HF1.out).mono ?_
            rintro e w6 ⟨rfl, hb6⟩
            rw [HV.out.2.1]
            simp only [resV]
            have hBz6 : Hid (Below w4.heap.size w4 w6) := hBz5.out.trans (hb6.mono hBz5.out.size)
            clear hb6 hBz5 HLs HF1
            go_wp2_with fail
            refine (sum_calls (HE.out.below (hB4.trans (hBz6.out.mono hs4))) (by decide) (HNT.out.below hBz6.out) (HLn4.out.below hBz6.out) (fun y hy => (HF.out y hy).1)).mono ?_
            rintro e w7 ⟨rfl, hb7⟩
            rw [HV.out.2.2.1, HSv.out]
            simp only [resV]
            have hBz7 : Hid (Below w4.heap.size w4 w7) := hBz6.out.trans (hb7.mono hBz6.out.size)
            have hc0 : w7.cell? ⟨g, 3, none⟩ = some (.int .i64 x4) := (hBz7.out.cell (p := ⟨g, 3, none⟩) hg2).trans HC0.out
            have hs7 := hBz7.out.size
            have hg7 : g < w7.heap.size := Nat.lt_of_lt_of_le hg2 hs7
            have HVa := Lib.hid HV.out.2.2.2
            have HC7 : Hid (∀ i x, L[i]? = some x → w7.cell? ⟨g, i * 4, none⟩ = some (.int .i64 x.1.1) ∧ w7.cell? ⟨g, i * 4 + 1, none⟩ = some (.int .i64 x.1.2.1) ∧ w7.cell? ⟨g, i * 4 + 2, none⟩ = some (.int .i64 x.1.2.2) ∧ w7.cell? ⟨g, i * 4 + 3, none⟩ = some (.int .i64 x.2)) := fun i x hx => by
              obtain ⟨h0, h1, h2, h3⟩ := HC.out i x hx
              exact ⟨(hBz7.out.cell (p := ⟨g, i * 4, none⟩) hg2).trans h0, (hBz7.out.cell (p := ⟨g, i * 4 + 1, none⟩) hg2).trans h1, (hBz7.out.cell (p := ⟨g, i * 4 + 2, none⟩) hg2).trans h2, (hBz7.out.cell (p := ⟨g, i * 4 + 3, none⟩) hg2).trans h3⟩
            have HT7 := Lib.hid (HT4.out.below hBz7.out)
            have hB7 := hB4.trans (hBz7.out.mono hs4)
            have hs07 := hB7.size
            clear hb7 hBz6 hBz7 HNT HLn4 HV HC HC0 HT4 hB4
            go_wp2_with fail
            go_loopw [19, 18] (fun i u wq => ∃ cl : Nat, cl ≤ 6 ∧ i = .int .i64 ((cl : Int) + 1) ∧ u = .int .i64 (clsSum lm L cl) ∧ Hid (Below w7.heap.size w7 wq)) (fun i _ _ => 7 - (intOf i).toNat)
            case atStart => exact ⟨0, Nat.zero_le _, rfl, rfl, Below.refl _ _⟩
            case round =>
              obtain ⟨cl, hcl, rfl, rfl, hBc⟩ := hrel
              have hcs := clsSum_bd lm HF.out (by have := HLen.out; omega) cl hcl
              by_cases hc6 : cl < 6
              · obtain ⟨wb, hwb⟩ : ∃ wb, wb = wr := ⟨_, rfl⟩
                subst hwb
                have hsb := hBc.out.size
                obtain ⟨hk1', hk2', hk3', hk4'⟩ := cls_law lm HF.out (by have := HLen.out; omega) (c := (cl : Int) + 1) (by omega)
                have HK1 := Lib.hid hk1'
                have HSC := Lib.hid (clsSum_succ lm L cl)
                generalize clsV lm L ((cl : Int) + 1) = nv at HK1 hk2' hk3' hk4' HSC
                generalize clsSum lm L cl = sv at hcs HSC ⊢
                have HK4 := Lib.hid hk4'
                have hws : IntKind.i64.wrap (sv + nv) = sv + nv := IntWalk.i64_in _ (by omega)
                have hwc : IntKind.i64.wrap ((cl : Int) + 1 + 1) = (cl : Int) + 1 + 1 := IntWalk.i64_in _ (by omega)
                have hcl6 : (cl : Int) + 1 ≤ 6 := by omega
                clear hk1' hk4'
                go_wp2_with fail
                go_loopw [21, 20] (fun i u wq => ∃ k : Nat, k ≤ q ∧ i = .int .i64 k ∧ Hid (OwnL 52 wb.heap.size wq u ((L.take k).filter fun p => decide (p.1.1 = (cl : Int) + 1))) ∧ Hid (Below wb.heap.size wb wq)) (fun i _ _ => q - (intOf i).toNat)
                case atStart => exact ⟨0, Nat.zero_le _, rfl, OwnL.nil _ _ _, Below.refl _ _⟩
                case round =>
                  obtain ⟨k, hk, rfl, hO, hBi⟩ := hrel
                  by_cases hkq : k < q
                  · obtain ⟨y, hy⟩ : ∃ y, L[k]? = some y := ⟨_, List.getElem?_eq_getElem (by rw [HLen.out]; exact hkq)⟩
                    obtain ⟨e0, e1, e2, e3⟩ := HC7.out k y hy
                    have hBB : Hid (Below w7.heap.size w7 wr) := hBc.out.trans (hBi.out.mono hsb)
                    have d0 := (hBB.out.cell (p := ⟨g, k * 4, none⟩) hg7).trans e0
                    have d1 := (hBB.out.cell (p := ⟨g, k * 4 + 1, none⟩) hg7).trans e1
                    have d2 := (hBB.out.cell (p := ⟨g, k * 4 + 2, none⟩) hg7).trans e2
                    have d3 := (hBB.out.cell (p := ⟨g, k * 4 + 3, none⟩) hg7).trans e3
                    have hsi := hBi.out.size
                    have HY := Lib.hid hy
                    obtain ⟨⟨y1, y2, y3⟩, y4⟩ := y
                    try dsimp only at d0 d1 d2 d3
                    clear e0 e1 e2 e3 hy hBB
                    by_cases hyc : y1 = (cl : Int) + 1
                    · have HFy := Lib.hid (filter_take_yes HY.out (f := fun p => decide (p.1.1 = (cl : Int) + 1)) (by simpa using hyc))
                      subst hyc
                      go_wp2_with (at_builtin; refine wpList_appL rfl _ _ 41 rfl 52 Tryd.underlying41 (by rfl) infoLine wb.heap.size _ ((L.take k).filter fun p => decide (p.1.1 = (cl : Int) + 1)) [(((cl : Int) + 1, y2, y3), y4)] rfl (hO.out.alloc _) ⟨wr.heap.size, 0, none⟩ 1 1 rfl rfl ?c1 ?c2 ?c3 ?_)
                      case c1 => exact fun z u hz => cells_new wr _ _ z u hz
                      case c2 => have := filter_take_len (n := 20) (by have := HLen.out; omega) k (fun p : G × Int => decide (p.1.1 = (cl : Int) + 1)) (L := L); simp only [List.length_cons, List.length_nil]; omega
                      case c3 => simp; omega
                      intro v5 w10 hO10 hk10
                      have hbk := (hO.out.alloc (Obj.cells #[Value.int IntKind.i64 ((cl : Int) + 1), Value.int IntKind.i64 y2, Value.int IntKind.i64 y3, Value.int IntKind.i64 y4] 52)).block
                      have HB10 : Hid (Below wb.heap.size wb w10) := Below.trans (show Below wb.heap.size wb _ by have := hBi.out; (repeat (first | exact Below.refl _ _ | assumption | refine Below.drew ?_ | refine below_many ?_ _ | refine Below.alloc ?_ (by first | (simp; done) | (simp; omega) | omega) _ | refine Below.setCell ?_ (by first | (simp; done) | (simp; omega) | omega) _))) (hk10.below (by simp; omega) (fun z hz e => by have := (hbk z e).1; omega))
                      have HO10 : Hid (OwnL 52 wb.heap.size w10 v5 ((L.take (k + 1)).filter fun p => decide (p.1.1 = (cl : Int) + 1))) := by unfold Hid; rw [HFy.out]; exact hO10
                      clear hO10 hk10 hbk hO hBi d0 d1 d2 d3 hsi
                      go_wp2_with fail
                      go_roundw
                      case rel => exact ⟨k + 1, by omega, by go_num, HO10, HB10⟩
                      case measure => simp [intOf]; omega
                    · have HFy := Lib.hid (filter_take_no HY.out (f := fun p => decide (p.1.1 = (cl : Int) + 1)) (by simpa using hyc))
                      have HO10 : Hid (OwnL 52 wb.heap.size wr u20 ((L.take (k + 1)).filter fun p => decide (p.1.1 = (cl : Int) + 1))) := by unfold Hid; rw [HFy.out]; exact hO.out
                      clear hO
                      go_wp2_with fail
                      go_roundw
                      case rel => exact ⟨k + 1, by omega, by go_num, HO10, hBi⟩
                      case measure => simp [intOf]; omega
                  · have hkq' : k = q := by omega
                    have hO' := hO.out.lines
                    rw [hkq', show L.take q = L by rw [← HLen.out, List.take_length]] at hO'
                    have HLp := Lib.hid hO'
                    have hBB : Hid (Below w7.heap.size w7 wr) := hBc.out.trans (hBi.out.mono hsb)
                    have hff : ∀ y ∈ L.filter (fun p => decide (p.1.1 = (cl : Int) + 1)), fitsL y = true := fun y hy => (HF.out y (List.mem_filter.1 hy).1).1
                    have HFF := Lib.hid hff
                    have hkI : ¬ (k : Int) < (q : Int) := by omega
                    clear hO hO' hBi hff hkq hk hkq'
                    go_wp2_with fail
                    refine (sum_calls (HE.out.below (hB7.trans (hBB.out.mono hs07))) (by decide) (HT7.out.below hBB.out) HLp.out HFF.out).mono ?_
                    rintro e w11 ⟨rfl, hb11⟩
                    rw [HK1.out]
                    simp only [resV]
                    have hBd : Hid (Below w7.heap.size w7 w11) := hBB.out.trans (hb11.mono hBB.out.size)
                    clear hb11 hBB HLp HFF
                    go_wp2_with fail
                    obtain ⟨rr, hrc, hrm⟩ := (HT7.out.below hBd.out).map
                    refine (capsGet_calls hrc hrm 1 ((cl : Int) + 1) (by decide) (i64wf (by omega) (by omega))).mono ?_
                    rintro e w12 ⟨rfl, hb12⟩
                    have HBe : Hid (Below w7.heap.size w7 w12) := hBd.out.trans (hb12.mono hBd.out.size)
                    clear hb12 hBd hrc hrm
                    have hk4' := HK4.out
                    generalize lim lm 1 ((cl : Int) + 1) = lv at hk4' HK4 ⊢
                    by_cases hlv : 0 < lv
                    · have hnl := hk4' hlv
                      clear hk4' HK4
                      go_wp2_with fail
                      go_roundw
                      case rel => exact ⟨cl + 1, by omega, by go_num, by rw [HSC.out], HBe⟩
                      case measure => simp [intOf]; omega
                    · clear hk4' HK4
                      go_wp2_with fail
                      go_roundw
                      case rel => exact ⟨cl + 1, by omega, by go_num, by rw [HSC.out], HBe⟩
                      case measure => simp [intOf]; omega
              · obtain rfl : cl = 6 := by omega
                have hall : clsSum lm L 6 = va := by rw [HVa.out]; exact clsSum_all lm (fun y hy => (HF.out y hy).1)
                have HBf : Hid (Below w.heap.size w wr) := hB7.trans (hBc.out.mono hs07)
                rw [hall]
                clear hall hcs hBc
                go_wp2_with fail
                go_ret
                exact ⟨by first | rfl | simp, HBf.out⟩

end Go.Proofs.YtclhajcphnpgjaaDoor
