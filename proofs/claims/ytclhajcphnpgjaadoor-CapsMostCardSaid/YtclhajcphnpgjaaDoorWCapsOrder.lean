/- The walk of pledgelaw16.CapsOrder: it returns true, and writes nothing that was there. -/
import Derived.Test.YtclhajcphnpgjaaDoorRight
import Derived.Deep.RegionLaw
import Derived.StillTailTactics
namespace Go.Proofs.YtclhajcphnpgjaaDoor
open Go.Maps
open Go Go.RowKit
set_option linter.unusedSimpArgs false
set_option linter.unusedVariables false

/-- The limits that are set after k rounds. -/
def limsL (zs : List Int) : Nat → Lims
  | 0 => []
  | k + 1 => lset (limsL zs k) (zs.getD (k * 3) 0) (zs.getD (k * 3 + 1) 0) (zs.getD (k * 3 + 2) 0)
theorem small_all {L : List (G × Int)} (h : ∀ x ∈ L, fitsL x = true ∧ x.2 < 1000000) : 0 ≤ sumAll L ∧ sumAll L ≤ 1000000 * (L.length : Int) := by
  induction L with
  | nil => simp [sumAll]
  | cons x L ih =>
    rw [sumAll_cons]
    have h1 := h x (List.mem_cons_self ..)
    have h2 := ih fun y hy => h y (List.mem_cons_of_mem _ hy)
    have h3 := fits_nonneg (L := [x]) (fun y hy => by rw [List.mem_singleton.1 hy]; exact h1.1) x (List.mem_singleton.2 rfl)
    simp only [List.length_cons]
    omega
theorem small_capR (m : Lims) {L : List (G × Int)} (h : ∀ x ∈ L, fitsL x = true) (hs : sumAll L ≤ 1000000000000000) : capR m L = .ok (sumAll (lev3 m L)) := by
  unfold capR
  rw [capSum_small m (fits_nonneg h) hs]

theorem IsRows.below {n : Nat} {w w' : World} {a : Option Addr} {len cap : Nat} {zs : List Int} (h : IsRows n w a len cap zs) (k : Below w.heap.size w w') : IsRows n w' a len cap zs := by
  rcases h with h | ⟨x, h1, h2, h3, h4, h5, h6⟩
  · exact .inl h
  · exact .inr ⟨x, h1, h2, h3, h4, fun i hi => (k.cell (World.block_lt_of_cell? w _ (h5 i hi))).trans (h5 i hi), h6⟩
theorem lineCells_drop (L : List (G × Int)) : ∀ k, lineCells (L.drop k) = (lineCells L).drop (k * 4) := by
  induction L with
  | nil => intro k; simp [lineCells]
  | cons x L ih =>
    intro k
    cases k with
    | zero => rfl
    | succ k => rw [List.drop_succ_cons, ih k, show (k + 1) * 4 = k * 4 + 1 + 1 + 1 + 1 by omega]; simp [lineCells]
theorem lineCells_take (L : List (G × Int)) : ∀ k, lineCells (L.take k) = (lineCells L).take (k * 4) := by
  induction L with
  | nil => intro k; simp [lineCells]
  | cons x L ih =>
    intro k
    cases k with
    | zero => simp [lineCells]
    | succ k => rw [List.take_succ_cons, show (k + 1) * 4 = k * 4 + 1 + 1 + 1 + 1 by omega]; simp [lineCells, ih k]

/-- Turned, or one line split in two: the same. -/
theorem order_law (m : Lims) {L : List (G × Int)} (h : ∀ x ∈ L, fitsL x = true ∧ x.2 < 1000000) (hl : L.length ≤ 20) {k : Nat} {x : G × Int} (hx : L[k]? = some x) :
    ∃ a, capR m L = .ok a ∧ capR m (L.drop k ++ L.take k) = .ok a ∧ capR m ((L.take k ++ L.drop (k + 1)) ++ [(x.1, x.2 / 2), (x.1, x.2 - x.2 / 2)]) = .ok a := by
  have hs := (small_all h).2
  have hs' : sumAll L ≤ MAXM := by unfold MAXM; omega
  have hf : ∀ q ∈ L, 0 ≤ q.2 := fits_nonneg fun q hq => (h q hq).1
  have hx0 : 0 ≤ x.2 := hf x (List.mem_of_getElem? hx)
  have hp : (L.drop k ++ L.take k).Perm L := by
    refine List.perm_append_comm.trans ?_
    rw [List.take_append_drop]
  have hd : L.drop k = x :: L.drop (k + 1) := by
    obtain ⟨hk, hx⟩ := List.getElem?_eq_some_iff.1 hx
    rw [← hx, List.getElem_cons_drop]
  have hL : L = L.take k ++ (x :: L.drop (k + 1)) := by rw [← hd, List.take_append_drop]
  refine ⟨sumAll (lev3 m L), ?_, ?_, ?_⟩
  · unfold capR; rw [capSum_small m hf hs']
  · unfold capR; rw [capSum_perm m hp, capSum_small m hf hs']
  · have hn2 : ∀ q ∈ (L.take k ++ L.drop (k + 1)) ++ [(x.1, x.2 / 2), (x.1, x.2 - x.2 / 2)], 0 ≤ q.2 := by
      intro q hq
      rcases List.mem_append.1 hq with hq | hq
      · rcases List.mem_append.1 hq with hq | hq
        · exact hf q (List.mem_of_mem_take hq)
        · exact hf q (List.mem_of_mem_drop hq)
      · simp only [List.mem_cons, List.not_mem_nil, or_false] at hq
        rcases hq with rfl | rfl <;> simp only <;> omega
    have hsum : sumAll ((L.take k ++ L.drop (k + 1)) ++ [(x.1, x.2 / 2), (x.1, x.2 - x.2 / 2)]) = sumAll L := by
      conv => rhs; rw [hL]
      simp only [sumAll_append, sumAll_cons, sumAll_nil]
      omega
    have hby : ∀ y, sumBy ((L.take k ++ L.drop (k + 1)) ++ [(x.1, x.2 / 2), (x.1, x.2 - x.2 / 2)]) y = sumBy L y := by
      intro y
      conv => rhs; rw [hL]
      simp only [sumBy_append, sumBy_cons, sumBy_nil]
      split <;> omega
    have hkey : ∀ y, y ∈ ((L.take k ++ L.drop (k + 1)) ++ [(x.1, x.2 / 2), (x.1, x.2 - x.2 / 2)]).map (·.1) ↔ y ∈ L.map (·.1) := by
      intro y
      conv => rhs; rw [hL]
      simp only [List.map_append, List.map_cons, List.map_nil, List.mem_append, List.mem_cons, List.not_mem_nil, or_false]
      constructor
      · rintro ((h | h) | h | h)
        · exact .inl h
        · exact .inr (.inr h)
        · exact .inr (.inl h)
        · exact .inr (.inl h)
      · rintro (h | h | h)
        · exact .inl (.inl h)
        · exact .inr (.inl h)
        · exact .inl (.inr h)
    unfold capR
    rw [capSum_alike m (by rw [overM_small hn2 (by rw [hsum]; exact hs'), overM_small hf hs']) hkey hby, capSum_small m hf hs']
theorem order_fits {L : List (G × Int)} (h : ∀ x ∈ L, fitsL x = true ∧ x.2 < 1000000) {k : Nat} {x : G × Int} (hx : L[k]? = some x) :
    ∀ y ∈ (L.take k ++ L.drop (k + 1)) ++ [(x.1, x.2 / 2), (x.1, x.2 - x.2 / 2)], fitsL y = true := by
  have hxf := (h x (List.mem_of_getElem? hx)).1
  intro y hy
  rcases List.mem_append.1 hy with hy | hy
  · rcases List.mem_append.1 hy with hy | hy
    · exact (h y (List.mem_of_mem_take hy)).1
    · exact (h y (List.mem_of_mem_drop hy)).1
  · simp only [fitsL, decide_eq_true_eq] at hxf
    simp only [List.mem_cons, List.not_mem_nil, or_false] at hy
    rcases hy with rfl | rfl <;> exact decide_eq_true (by simp only; omega)

set_option maxHeartbeats 8000000 in
set_option maxRecDepth 100000 in
theorem walk_CapsOrder {p : Nat → Addr} {w : World} (hE : Errs [2, 3] w.heap.size p w) (a : Option Addr) (len cap : Nat) (zs : List Int) (c : Option Addr) (len1 cap1 : Nat) (ys : List Int) (n : Int) (hz : IsRows 3 w a len cap zs) (hy : IsRows 4 w c len1 cap1 ys) (l0 : -9223372036854775808 ≤ n) (u0 : n ≤ 9223372036854775807) :
    Calls Tryd.prog 4 #[.slice a len cap, .slice c len1 cap1, .int .i64 n] w fun e w' => e = .returned (.bool true) ∧ Below w.heap.size w w' := by
  have HE := Lib.hid hE; clear hE
  by_cases hl : 20 < len
  · have hl1 : decide ((20 : Int) < len) = true := decide_eq_true (by omega)
    clear hz hy hl
    go_enter Tryd.func4, Tryd.ntmps4
    go_wp2_with fail
    refine (first16_calls HE.out (by decide) (by decide)).mono ?_
    rintro e w1 ⟨rfl, hb1⟩
    go_wp2_with fail
    go_ret
    exact ⟨rfl, hb1⟩
  by_cases hk : 20 < len1
  · have hl1 : decide ((20 : Int) < len) = false := decide_eq_false (by omega)
    have hk1 : decide ((20 : Int) < len1) = true := decide_eq_true (by omega)
    clear hz hy hl hk
    go_enter Tryd.func4, Tryd.ntmps4
    go_wp2_with fail
    refine (first16_calls HE.out (by decide) (by decide)).mono ?_
    rintro e w1 ⟨rfl, hb1⟩
    go_wp2_with fail
    go_ret
    exact ⟨rfl, hb1⟩
  by_cases hk0 : len1 = 0
  · have hl1 : decide ((20 : Int) < len) = false := decide_eq_false (by omega)
    subst hk0
    clear hz hy hl hk
    go_enter Tryd.func4, Tryd.ntmps4
    go_wp2_with fail
    refine (first16_calls HE.out (by decide) (by decide)).mono ?_
    rintro e w1 ⟨rfl, hb1⟩
    go_wp2_with fail
    go_ret
    exact ⟨rfl, hb1⟩
  have hl1 : decide ((20 : Int) < len) = false := decide_eq_false (by omega)
  have hk1 : decide ((20 : Int) < len1) = false := decide_eq_false (by omega)
  have hl2 : len ≤ 20 := by omega
  have hk2 : len1 ≤ 20 := by omega
  have hk3 : 0 < len1 := by omega
  have hk4 : ((len1 : Int) == 0) = false := by simp; omega
  clear hl hk
  have HZ := Lib.hid hz
  have HY := Lib.hid hy
  clear hz hy
  go_enter Tryd.func4, Tryd.ntmps4
  go_wp2_with fail
  refine (first16_calls HE.out (by decide) (by decide)).mono ?_
  rintro e w1 ⟨rfl, hb1⟩
  have hs1 := hb1.size
  go_wp2_with fail
  have HT1 := Lib.hid (caps_new w1.heap.size w1)
  have HB2 : Hid (Below w.heap.size w (w1.alloc (Obj.cells #[.map none] 44))) := by unfold Hid; (repeat (first | exact Below.refl _ _ | assumption | refine Below.drew ?_ | refine below_many ?_ _ | refine Below.alloc ?_ (by first | (simp; done) | (simp; omega) | omega) _ | refine Below.setCell ?_ (by first | (simp; done) | (simp; omega) | omega) _))
  generalize hw2 : w1.alloc (Obj.cells #[.map none] 44) = w2 at HT1 HB2 ⊢
  have hsw : w.heap.size ≤ w1.heap.size := hs1
  have htb : w1.heap.size ≤ w1.heap.size := Nat.le_refl _
  generalize htb' : w1.heap.size = tb at hs1 HT1 htb hsw ⊢
  clear hw2 hb1 l0 u0
  go_loopw [9] (fun i wr => ∃ k : Nat, k ≤ len ∧ i = .int .i64 k ∧ Hid (CapsTab tb wr tb 0 (limsL zs k)) ∧ Hid (Below w.heap.size w wr)) (fun i _ => len - (intOf i).toNat)
  case atStart => exact ⟨0, Nat.zero_le _, rfl, HT1, HB2⟩
  case round =>
    obtain ⟨k, hk, rfl, hT, hB⟩ := hrel
    by_cases hkl : k < len
    · obtain ⟨b, off, rfl, hb, hlz, hlc, hcm, hcell, hwf⟩ := HZ.out.open (by decide) (by omega)
      have hx0 : wr.cell? ⟨b, off + k * 3, none⟩ = some (.int .i64 (zs.getD (k * 3) 0)) := (hB.out.cell (p := ⟨b, off + k * 3, none⟩) hb).trans (hcell (k * 3) (by omega))
      have hx1 : wr.cell? ⟨b, off + k * 3 + 1, none⟩ = some (.int .i64 (zs.getD (k * 3 + 1) 0)) := (hB.out.cell (p := ⟨b, off + (k * 3 + 1), none⟩) hb).trans (hcell (k * 3 + 1) (by omega))
      have hx2 : wr.cell? ⟨b, off + k * 3 + 2, none⟩ = some (.int .i64 (zs.getD (k * 3 + 2) 0)) := (hB.out.cell (p := ⟨b, off + (k * 3 + 2), none⟩) hb).trans (hcell (k * 3 + 2) (by omega))
      have HM : Hid (limsL zs (k + 1) = lset (limsL zs k) (zs.getD (k * 3) 0) (zs.getD (k * 3 + 1) 0) (zs.getD (k * 3 + 2) 0)) := rfl
      clear hcell hwf
      generalize zs.getD (k * 3) 0 = y0 at hx0 HM
      generalize zs.getD (k * 3 + 1) 0 = y1 at hx1 HM
      generalize zs.getD (k * 3 + 2) 0 = y2 at hx2 HM
      go_wp2_with fail
      (refine wp_region_still_tail 10 (by kernel_rfl) (by kernel_rfl) ?_; simp only [List.take_succ_cons, List.take_zero, List.drop_succ_cons, List.drop_zero]; change wpStill _ _ (World.drew _) _ _ _; (repeat still_step); refine wpStill_nil ?_; change wpList _ _ _ _ _ (World.drew _))
      go_wp2_with fail
      have hsr := hB.out.size
      have hBd : Below w.heap.size w wr.drew := hB.out.drew
      refine (caps_set (HE.out.below hBd) (by decide) (hT.out.below (Below.drew (Below.refl _ _))) (Nat.le_of_lt hT.out.lt) y0 y1 y2).mono ?_
      rintro e w3 ⟨rfl, hT3, hk3'⟩
      have HB3 : Hid (Below w.heap.size w w3) := hBd.trans (hk3'.below hBd.size (fun x hx e => by omega))
      have HT3 : Hid (CapsTab tb w3 tb 0 (limsL zs (k + 1))) := by unfold Hid; rw [HM.out]; exact hT3
      clear hT3 hk3' hT hB hBd
      generalize limE p y0 y1 y2 = le
      go_wp2_with fail
      go_roundw
      case rel => exact ⟨k + 1, by omega, by go_num, HT3, HB3⟩
      case measure => simp [intOf]; omega
    · obtain rfl : k = len := by omega
      have hBr := hB.out
      have hsr := hBr.size
      have HTa := Lib.hid hT.out.at

      clear hT hB HT1 HB2 HZ
      generalize limsL zs k = lm at HTa
      go_wp2_with fail
      refine (right_calls c len1 cap1 ys (HY.out.below hBr) hk2).mono ?_
      rintro e w4 ⟨hb4, v, rfl, hO⟩
      have hlen := rightL_len ys len1
      have hfit := rightL_fits ys len1
      generalize rightL ys len1 = L at hO hlen hfit
      obtain ⟨g, cap2, rfl, hg1, hg2, hg3, hg4, hg5, hg6⟩ := hO.open (by intro e; rw [e] at hlen; simp at hlen; omega)
      rw [hlen] at hg3 ⊢
      unfold maxLen at hg4
      have hB4 := hBr.trans (hb4.mono hsr)
      have hs4 := hB4.size
      have HT4 := Lib.hid (HTa.out.below hb4)
      have HLn := hO.lines
      rw [hlen] at HLn
      have HLn4 := Lib.hid HLn
      have HC := Lib.hid hg5
      have HF := Lib.hid hfit
      have HLen := Lib.hid hlen
      clear hO hg5 hg6 hlen hfit hb4 HTa hBr hsr HLn HY hg1
      go_wp2_with fail
      refine (number_calls _ _ (by omega) (by omega) _).mono ?_
      rintro e w5 ⟨rfl, rfl⟩
      obtain ⟨j, hj⟩ : ∃ j : Nat, (j : Int) = n % (len1 : Int) := ⟨(n % (len1 : Int)).toNat, by have := Int.emod_nonneg n (show (len1 : Int) ≠ 0 by omega); omega⟩
      have hjl : j < len1 := by have := Int.emod_lt_of_pos n (show (0 : Int) < len1 by omega); omega
      rw [← hj]
      clear hj
      have hj0 : (0 : Int) ≤ (j : Int) := Int.natCast_nonneg _
      have hjI : (j : Int) < (len1 : Int) := by omega
      obtain ⟨x, hx⟩ : ∃ x, L[j]? = some x := ⟨_, List.getElem?_eq_getElem (by rw [HLen.out]; exact hjl)⟩
      obtain ⟨va, hv1, hv2, hv3⟩ := order_law lm HF.out (by rw [HLen.out]; exact hk2) hx
      have hf3 := order_fits HF.out hx
      have HXf := Lib.hid (HF.out x (List.mem_of_getElem? hx))
      have HXc := Lib.hid (lineCells_get L j x hx)
      obtain ⟨⟨x1, x2, x3⟩, x4⟩ := x
      have HV1 := Lib.hid hv1
      have HV2 := Lib.hid hv2
      have HV3 := Lib.hid hv3
      have HF3 := Lib.hid hf3
      clear hv1 hv2 hv3 hf3 hx
      have HY1 : Hid (∀ W, Below w4.heap.size w4 W → ∀ q u, (lineCells (L.drop j))[q]? = some u → W.cell? ((⟨g, j * 4, none⟩ : Addr).add q) = some u) := by
        intro W hW q u hq
        rw [lineCells_drop, List.getElem?_drop] at hq
        rw [show (⟨g, j * 4, none⟩ : Addr).add q = ⟨g, j * 4 + q, none⟩ by cases q <;> simp [Addr.add, Nat.add_assoc], hW.cell (p := ⟨g, j * 4 + q, none⟩) hg2]
        exact HC.out _ _ hq
      have HY2 : Hid (∀ W, Below w4.heap.size w4 W → ∀ q u, (lineCells (L.take j))[q]? = some u → W.cell? ((⟨g, 0, none⟩ : Addr).add q) = some u) := by
        intro W hW q u hq
        rw [lineCells_take, List.getElem?_take] at hq
        split at hq
        · rw [show (⟨g, 0, none⟩ : Addr).add q = ⟨g, q, none⟩ by cases q <;> simp [Addr.add, Nat.add_assoc], hW.cell (p := ⟨g, q, none⟩) hg2]
          exact HC.out _ _ hq
        · cases hq
      have HY3 : Hid (∀ W, Below w4.heap.size w4 W → ∀ q u, (lineCells (L.drop (j + 1)))[q]? = some u → W.cell? ((⟨g, (j + 1) * 4, none⟩ : Addr).add q) = some u) := by
        intro W hW q u hq
        rw [lineCells_drop, List.getElem?_drop] at hq
        rw [show (⟨g, (j + 1) * 4, none⟩ : Addr).add q = ⟨g, (j + 1) * 4 + q, none⟩ by cases q <;> simp [Addr.add, Nat.add_assoc], hW.cell (p := ⟨g, (j + 1) * 4 + q, none⟩) hg2]
        exact HC.out _ _ hq
      have hL1 : (L.drop j).length = len1 - j := by rw [List.length_drop, HLen.out]
      have hL2 : (L.take j).length = j := by rw [List.length_take, HLen.out]; omega
      have hL3 : (L.drop (j + 1)).length = len1 - (j + 1) := by rw [List.length_drop, HLen.out]
      have HLL := Lib.hid (And.intro hL1 (And.intro hL2 hL3))
      clear hL1 hL2 hL3
      have hj1 : j ≤ len1 := Nat.le_of_lt hjl
      have hj2 : ¬ cap2 = j := by omega
      have hj3 : j ≤ cap2 := by omega
      have HO0 := Lib.hid (OwnL.empty 52 (Nat.le_refl w4.heap.size))
      have HB5 : Hid (Below w4.heap.size w4 (w4.alloc (Obj.cells #[] 52)).drew) := by unfold Hid; (repeat (first | exact Below.refl _ _ | assumption | refine Below.drew ?_ | refine below_many ?_ _ | refine Below.alloc ?_ (by first | (simp; done) | (simp; omega) | omega) _ | refine Below.setCell ?_ (by first | (simp; done) | (simp; omega) | omega) _))
      go_wp2_with fail
      have hsB : w4.heap.size ≤ (w4.alloc (Obj.cells #[] 52)).drew.heap.size := HB5.out.size
      go_region_law (first | (refine step_appL (by rfl) (.tmp 66) (.tmp 69) 41 (by rfl) 52 Tryd.underlying41 (by rfl) infoLine w4.heap.size (.slice (some ⟨w4.heap.size, 0, none⟩) 0 0) [] (L.drop j) (by rfl) (OwnL.drew HO0.out) ⟨g, j * 4, none⟩ (len1 - j) (cap2 - j) (by rfl) HLL.out.1 (HY1.out _ HB5.out) (by rw [HLL.out.1]; simp; omega) hsB ?_; intro v2 w5 ho2 hk2') | (refine step_appL (by rfl) (.tmp 70) (.tmp 73) 41 (by rfl) 52 Tryd.underlying41 (by rfl) infoLine w4.heap.size v2 ([] ++ L.drop j) (L.take j) (by rfl) ho2 ⟨g, 0, none⟩ j cap2 (by rfl) HLL.out.2.1 (HY2.out _ (HB5.out.trans (hk2'.below hsB (fun q hq e => by simp [Value.ownBlock] at e; omega)))) (by rw [List.nil_append, HLL.out.1, HLL.out.2.1]; omega) (Nat.le_trans hsB hk2'.size) ?_; intro v3 w6 ho3 hk3') | fail)
      have HO3 : Hid (OwnL 52 w4.heap.size w6 v3 (L.drop j ++ L.take j)) := by unfold Hid; rw [List.nil_append] at ho3; exact ho3
      have hB5' : Below w4.heap.size w4 w5 := HB5.out.trans (hk2'.below hsB (fun q hq e => by simp [Value.ownBlock] at e; omega))
      have HB6 : Hid (Below w4.heap.size w4 w6) := hB5'.trans (hk3'.below hB5'.size (fun q hq e => by have := (ho2.block q e).1; omega))
      clear ho2 ho3 hk2' hk3' hB5' HB5 HO0 hsB HY1
      have hs6 := HB6.out.size
      have c0 := (HB6.out.cell (p := ⟨g, j * 4, none⟩) hg2).trans (HC.out _ _ HXc.out.1)
      have c1 := (HB6.out.cell (p := ⟨g, j * 4 + 1, none⟩) hg2).trans (HC.out _ _ HXc.out.2.1)
      have c2 := (HB6.out.cell (p := ⟨g, j * 4 + 2, none⟩) hg2).trans (HC.out _ _ HXc.out.2.2.1)
      have c3 := (HB6.out.cell (p := ⟨g, j * 4 + 3, none⟩) hg2).trans (HC.out _ _ HXc.out.2.2.2)
      try dsimp only at c0 c1 c2 c3
      have hx4 : 0 ≤ x4 ∧ x4 < 1000000 := ⟨by have := HXf.out.1; simp only [fitsL, decide_eq_true_eq] at this; omega, HXf.out.2⟩
      have htd : x4.tdiv 2 = x4 / 2 := Int.tdiv_eq_ediv_of_nonneg hx4.1
      have hwr : IntKind.i64.wrap (x4 - x4 / 2) = x4 - x4 / 2 := IntWalk.i64_in _ (by omega)
      clear HXc HXf
      have hg6' : g < w6.heap.size := Nat.lt_of_lt_of_le hg2 hs6
      have e0 : ∀ o : Obj, (w6.alloc o).cell? ⟨g, j * 4, none⟩ = some (.int .i64 x1) := fun o => (((Below.refl w6.heap.size w6).alloc (Nat.le_refl _) o).cell (p := ⟨g, j * 4, none⟩) hg6').trans c0
      have e1 : ∀ o : Obj, (w6.alloc o).cell? ⟨g, j * 4 + 1, none⟩ = some (.int .i64 x2) := fun o => (((Below.refl w6.heap.size w6).alloc (Nat.le_refl _) o).cell (p := ⟨g, j * 4 + 1, none⟩) hg6').trans c1
      have e2 : ∀ o : Obj, (w6.alloc o).cell? ⟨g, j * 4 + 2, none⟩ = some (.int .i64 x3) := fun o => (((Below.refl w6.heap.size w6).alloc (Nat.le_refl _) o).cell (p := ⟨g, j * 4 + 2, none⟩) hg6').trans c2
      have e3 : ∀ o : Obj, (w6.alloc o).cell? ⟨g, j * 4 + 3, none⟩ = some (.int .i64 x4) := fun o => (((Below.refl w6.heap.size w6).alloc (Nat.le_refl _) o).cell (p := ⟨g, j * 4 + 3, none⟩) hg6').trans c3
      go_wp2_with fail
      obtain ⟨W7, hW7⟩ : ∃ W7, W7 = ((w6.alloc (Obj.cells #[Value.int IntKind.i64 x1, Value.int IntKind.i64 x2, Value.int IntKind.i64 x3, Value.int IntKind.i64 (x4 / 2)] 52)).alloc (Obj.cells #[Value.int IntKind.i64 x1, Value.int IntKind.i64 x2, Value.int IntKind.i64 x3, Value.int IntKind.i64 (x4 - x4 / 2)] 52)) := ⟨_, rfl⟩
      rw [← hW7]
      have HB7 : Hid (Below w6.heap.size w6 W7) := by unfold Hid; rw [hW7]; (repeat (first | exact Below.refl _ _ | assumption | refine Below.drew ?_ | refine below_many ?_ _ | refine Below.alloc ?_ (by first | (simp; done) | (simp; omega) | omega) _ | refine Below.setCell ?_ (by first | (simp; done) | (simp; omega) | omega) _))
      have HS7 : Hid (W7.heap.size = w6.heap.size + 1 + 1) := by unfold Hid; rw [hW7]; simp
      have HQ : Hid ((W7.cell? ⟨w6.heap.size, 0, none⟩ = some (.int .i64 x1) ∧ W7.cell? ⟨w6.heap.size, 1, none⟩ = some (.int .i64 x2) ∧ W7.cell? ⟨w6.heap.size, 2, none⟩ = some (.int .i64 x3) ∧ W7.cell? ⟨w6.heap.size, 3, none⟩ = some (.int .i64 (x4 / 2))) ∧
        (W7.cell? ⟨w6.heap.size + 1, 0, none⟩ = some (.int .i64 x1) ∧ W7.cell? ⟨w6.heap.size + 1, 1, none⟩ = some (.int .i64 x2) ∧ W7.cell? ⟨w6.heap.size + 1, 2, none⟩ = some (.int .i64 x3) ∧ W7.cell? ⟨w6.heap.size + 1, 3, none⟩ = some (.int .i64 (x4 - x4 / 2)))) := by
        unfold Hid; rw [hW7]
        refine ⟨⟨?_, ?_, ?_, ?_⟩, ?_, ?_, ?_, ?_⟩ <;> go_simp
      clear hW7 c0 c1 c2 c3 e0 e1 e2 e3
      have HBw7 : Hid (Below w4.heap.size w4 W7) := HB6.out.trans (HB7.out.mono hs6)
      have HO37 := Lib.hid (HO3.out.below HB7.out)
      have HO0 := Lib.hid (OwnL.empty 52 (Nat.le_refl W7.heap.size))
      have HB8 : Hid (Below W7.heap.size W7 (W7.alloc (Obj.cells #[] 52)).drew) := by unfold Hid; (repeat (first | exact Below.refl _ _ | assumption | refine Below.drew ?_ | refine below_many ?_ _ | refine Below.alloc ?_ (by first | (simp; done) | (simp; omega) | omega) _ | refine Below.setCell ?_ (by first | (simp; done) | (simp; omega) | omega) _))
      have hsB : W7.heap.size ≤ (W7.alloc (Obj.cells #[] 52)).drew.heap.size := HB8.out.size
      have hj4 : j + 1 ≤ len1 := by omega
      have hj5 : j + 1 ≤ cap2 := by omega
      have hwj : IntKind.i64.wrap ((j : Int) + 1) = (j : Int) + 1 := IntWalk.i64_in _ (by omega)
      have hjj : (0 : Int) ≤ (j : Int) + 1 := by omega
      have hjj2 : (j : Int) + 1 ≤ (len1 : Int) := by omega
      clear HO3 HB6 HB7
      by_cases hcap : cap2 = j + 1
      · subst hcap
        have hj7 : (j : Int) ≤ (j : Int) + 1 := by omega
        have HE0 : Hid (∀ (q : Nat) (u : Value), (lineCells (L.drop (j + 1)))[q]? = some u → False) := by
          intro q u hq
          have h1 := (List.getElem?_eq_some_iff.1 hq).1
          rw [lineCells_length, HLL.out.2.2] at h1
          omega
        go_region_law (first | (refine step_appL (by rfl) (.tmp 93) (.tmp 96) 41 (by rfl) 52 Tryd.underlying41 (by rfl) infoLine W7.heap.size (.slice (some ⟨W7.heap.size, 0, none⟩) 0 0) [] (L.take j) (by rfl) (OwnL.drew HO0.out) ⟨g, 0, none⟩ j (j + 1) (by rfl) HLL.out.2.1 (HY2.out _ (HBw7.out.trans (HB8.out.mono HBw7.out.size))) (by rw [HLL.out.2.1]; simp; omega) hsB ?_; intro v2 w8 ho2 hk2') | (refine step_appL (by rfl) (.tmp 97) (.tmp 101) 41 (by rfl) 52 Tryd.underlying41 (by rfl) infoLine W7.heap.size v2 ([] ++ L.take j) (L.drop (j + 1)) (by rfl) ho2 ⟨g, 0, none⟩ 0 0 (by rfl) (by rw [HLL.out.2.2]; omega) (fun q u hq => (HE0.out q u hq).elim) (by rw [List.nil_append, HLL.out.2.1, HLL.out.2.2]; omega) (Nat.le_trans hsB hk2'.size) ?_; intro v4 w9 ho3 hk3') | fail)
        have HO9 : Hid (OwnL 52 W7.heap.size w9 v4 (L.take j ++ L.drop (j + 1))) := by unfold Hid; rw [List.nil_append] at ho3; exact ho3
        have hB8' : Below W7.heap.size W7 w8 := HB8.out.trans (hk2'.below hsB (fun q hq e => by simp [Value.ownBlock] at e; omega))
        have HB9 : Hid (Below W7.heap.size W7 w9) := hB8'.trans (hk3'.below hB8'.size (fun q hq e => by have := (ho2.block q e).1; omega))
        clear ho2 ho3 hk2' hk3' hB8' HB8 HO0 hsB HY2 HY3
        have hs9 := HB9.out.size
        have hs7 := HS7.out
        have q0 := (HB9.out.cell (p := ⟨w6.heap.size, 0, none⟩) (show w6.heap.size < _ by omega)).trans HQ.out.1.1
        have q1 := (HB9.out.cell (p := ⟨w6.heap.size, 1, none⟩) (show w6.heap.size < _ by omega)).trans HQ.out.1.2.1
        have q2 := (HB9.out.cell (p := ⟨w6.heap.size, 2, none⟩) (show w6.heap.size < _ by omega)).trans HQ.out.1.2.2.1
        have q3 := (HB9.out.cell (p := ⟨w6.heap.size, 3, none⟩) (show w6.heap.size < _ by omega)).trans HQ.out.1.2.2.2
        have r0 := (HB9.out.cell (p := ⟨w6.heap.size + 1, 0, none⟩) (show w6.heap.size + 1 < _ by omega)).trans HQ.out.2.1
        have r1 := (HB9.out.cell (p := ⟨w6.heap.size + 1, 1, none⟩) (show w6.heap.size + 1 < _ by omega)).trans HQ.out.2.2.1
        have r2 := (HB9.out.cell (p := ⟨w6.heap.size + 1, 2, none⟩) (show w6.heap.size + 1 < _ by omega)).trans HQ.out.2.2.2.1
        have r3 := (HB9.out.cell (p := ⟨w6.heap.size + 1, 3, none⟩) (show w6.heap.size + 1 < _ by omega)).trans HQ.out.2.2.2.2
        clear hs7
        go_wp2_with (at_builtin; refine wpList_appL rfl _ _ 41 rfl 52 Tryd.underlying41 (by rfl) infoLine W7.heap.size v4 (L.take j ++ L.drop (j + 1)) [((x1, x2, x3), x4 / 2), ((x1, x2, x3), x4 - x4 / 2)] rfl (HO9.out.alloc _) ⟨w9.heap.size, 0, none⟩ 2 2 rfl rfl ?c1 ?c2 ?c3 ?_)
        case c1 => exact fun q u hq => cells_new w9 _ _ q u hq
        case c2 => rw [List.length_append, HLL.out.2.1, HLL.out.2.2]; simp; omega
        case c3 => simp; omega
        intro v5 w10 hO10 hk10
        have hbk := (HO9.out.alloc (Obj.cells #[Value.int IntKind.i64 x1, Value.int IntKind.i64 x2, Value.int IntKind.i64 x3, Value.int IntKind.i64 (x4 / 2), Value.int IntKind.i64 x1, Value.int IntKind.i64 x2, Value.int IntKind.i64 x3, Value.int IntKind.i64 (x4 - x4 / 2)] 52)).block
        have hB10 : Below W7.heap.size W7 w10 := Below.trans (show Below W7.heap.size W7 _ by have := HB9.out; (repeat (first | exact Below.refl _ _ | assumption | refine Below.drew ?_ | refine below_many ?_ _ | refine Below.alloc ?_ (by first | (simp; done) | (simp; omega) | omega) _ | refine Below.setCell ?_ (by first | (simp; done) | (simp; omega) | omega) _))) (hk10.below (by simp; omega) (fun q hq e => by have := (hbk q e).1; omega))
        have HBa : Hid (Below w4.heap.size w4 w10) := HBw7.out.trans (hB10.mono HBw7.out.size)
        have HBb : Hid (Below w.heap.size w w10) := hB4.trans (HBa.out.mono hs4)
        have HLa := Lib.hid (HLn4.out.below HBa.out)
        have HLb := Lib.hid ((HO37.out.below hB10).lines)
        have HO10 : Hid (OwnL 52 W7.heap.size w10 v5 ((L.take j ++ L.drop (j + 1)) ++ [((x1, x2, x3), x4 / 2), ((x1, x2, x3), x4 - x4 / 2)])) := by unfold Hid; first | exact hO10 | (rw [List.append_assoc]; exact hO10)
        have HLc := Lib.hid HO10.out.lines
        have HTx := Lib.hid (HT4.out.below HBa.out)
        have hf1 : ∀ y ∈ L, fitsL y = true := fun y hy => (HF.out y hy).1
        have hf2 : ∀ y ∈ L.drop j ++ L.take j, fitsL y = true := fun y hy => by
          rcases List.mem_append.1 hy with h | h
          · exact (HF.out y (List.mem_of_mem_drop h)).1
          · exact (HF.out y (List.mem_of_mem_take h)).1
        have HG1 := Lib.hid hf1
        have HG2 := Lib.hid hf2
        clear hf1 hf2 hO10 HO10 hk10 hbk hB10 HO9 HB9 HO37 HLn4 HT4 hB4 q0 q1 q2 q3 r0 r1 r2 r3 HQ HBw7
        go_wp2_with fail
        refine (sum_calls (HE.out.below HBb.out) (by decide) HTx.out HLa.out HG1.out).mono ?_
        rintro e w11 ⟨rfl, hb11⟩
        rw [HV1.out]
        simp only [resV]
        have HBc := Lib.hid (HBb.out.trans (hb11.mono HBb.out.size))
        have HTy := Lib.hid (HTx.out.below hb11)
        have HLd := Lib.hid (HLb.out.below hb11)
        have HLe := Lib.hid (HLc.out.below hb11)
        clear hb11 HBb HTx HLb HLc HLa
        go_wp2_with fail
        refine (sum_calls (HE.out.below HBc.out) (by decide) HTy.out HLd.out HG2.out).mono ?_
        rintro e w12 ⟨rfl, hb12⟩
        rw [HV2.out]
        simp only [resV]
        have HBd := Lib.hid (HBc.out.trans (hb12.mono HBc.out.size))
        have HTz := Lib.hid (HTy.out.below hb12)
        have HLf := Lib.hid (HLe.out.below hb12)
        clear hb12 HBc HTy HLd HLe
        go_wp2_with fail
        refine (sum_calls (HE.out.below HBd.out) (by decide) HTz.out HLf.out HF3.out).mono ?_
        rintro e w13 ⟨rfl, hb13⟩
        rw [HV3.out]
        simp only [resV]
        have HBe := Lib.hid (HBd.out.trans (hb13.mono HBd.out.size))
        clear hb13 HBd HTz HLf
        go_wp2_with fail
        go_ret
        exact ⟨by first | rfl | simp, HBe.out⟩
      · go_region_law (first | (refine step_appL (by rfl) (.tmp 93) (.tmp 96) 41 (by rfl) 52 Tryd.underlying41 (by rfl) infoLine W7.heap.size (.slice (some ⟨W7.heap.size, 0, none⟩) 0 0) [] (L.take j) (by rfl) (OwnL.drew HO0.out) ⟨g, 0, none⟩ j cap2 (by rfl) HLL.out.2.1 (HY2.out _ (HBw7.out.trans (HB8.out.mono HBw7.out.size))) (by rw [HLL.out.2.1]; simp; omega) hsB ?_; intro v2 w8 ho2 hk2') | (refine step_appL (by rfl) (.tmp 97) (.tmp 101) 41 (by rfl) 52 Tryd.underlying41 (by rfl) infoLine W7.heap.size v2 ([] ++ L.take j) (L.drop (j + 1)) (by rfl) ho2 ⟨g, (j + 1) * 4, none⟩ (len1 - (j + 1)) (cap2 - (j + 1)) (by rfl) HLL.out.2.2 (HY3.out _ (HBw7.out.trans ((HB8.out.trans (hk2'.below hsB (fun q hq e => by simp [Value.ownBlock] at e; omega))).mono HBw7.out.size))) (by rw [List.nil_append, HLL.out.2.1, HLL.out.2.2]; omega) (Nat.le_trans hsB hk2'.size) ?_; intro v4 w9 ho3 hk3') | fail)
        have HO9 : Hid (OwnL 52 W7.heap.size w9 v4 (L.take j ++ L.drop (j + 1))) := by unfold Hid; rw [List.nil_append] at ho3; exact ho3
        have hB8' : Below W7.heap.size W7 w8 := HB8.out.trans (hk2'.below hsB (fun q hq e => by simp [Value.ownBlock] at e; omega))
        have HB9 : Hid (Below W7.heap.size W7 w9) := hB8'.trans (hk3'.below hB8'.size (fun q hq e => by have := (ho2.block q e).1; omega))
        clear ho2 ho3 hk2' hk3' hB8' HB8 HO0 hsB HY2 HY3
        have hs9 := HB9.out.size
        have hs7 := HS7.out
        have q0 := (HB9.out.cell (p := ⟨w6.heap.size, 0, none⟩) (show w6.heap.size < _ by omega)).trans HQ.out.1.1
        have q1 := (HB9.out.cell (p := ⟨w6.heap.size, 1, none⟩) (show w6.heap.size < _ by omega)).trans HQ.out.1.2.1
        have q2 := (HB9.out.cell (p := ⟨w6.heap.size, 2, none⟩) (show w6.heap.size < _ by omega)).trans HQ.out.1.2.2.1
        have q3 := (HB9.out.cell (p := ⟨w6.heap.size, 3, none⟩) (show w6.heap.size < _ by omega)).trans HQ.out.1.2.2.2
        have r0 := (HB9.out.cell (p := ⟨w6.heap.size + 1, 0, none⟩) (show w6.heap.size + 1 < _ by omega)).trans HQ.out.2.1
        have r1 := (HB9.out.cell (p := ⟨w6.heap.size + 1, 1, none⟩) (show w6.heap.size + 1 < _ by omega)).trans HQ.out.2.2.1
        have r2 := (HB9.out.cell (p := ⟨w6.heap.size + 1, 2, none⟩) (show w6.heap.size + 1 < _ by omega)).trans HQ.out.2.2.2.1
        have r3 := (HB9.out.cell (p := ⟨w6.heap.size + 1, 3, none⟩) (show w6.heap.size + 1 < _ by omega)).trans HQ.out.2.2.2.2
        clear hs7
        go_wp2_with (at_builtin; refine wpList_appL rfl _ _ 41 rfl 52 Tryd.underlying41 (by rfl) infoLine W7.heap.size v4 (L.take j ++ L.drop (j + 1)) [((x1, x2, x3), x4 / 2), ((x1, x2, x3), x4 - x4 / 2)] rfl (HO9.out.alloc _) ⟨w9.heap.size, 0, none⟩ 2 2 rfl rfl ?c1 ?c2 ?c3 ?_)
        case c1 => exact fun q u hq => cells_new w9 _ _ q u hq
        case c2 => rw [List.length_append, HLL.out.2.1, HLL.out.2.2]; simp; omega
        case c3 => simp; omega
        intro v5 w10 hO10 hk10
        have hbk := (HO9.out.alloc (Obj.cells #[Value.int IntKind.i64 x1, Value.int IntKind.i64 x2, Value.int IntKind.i64 x3, Value.int IntKind.i64 (x4 / 2), Value.int IntKind.i64 x1, Value.int IntKind.i64 x2, Value.int IntKind.i64 x3, Value.int IntKind.i64 (x4 - x4 / 2)] 52)).block
        have hB10 : Below W7.heap.size W7 w10 := Below.trans (show Below W7.heap.size W7 _ by have := HB9.out; (repeat (first | exact Below.refl _ _ | assumption | refine Below.drew ?_ | refine below_many ?_ _ | refine Below.alloc ?_ (by first | (simp; done) | (simp; omega) | omega) _ | refine Below.setCell ?_ (by first | (simp; done) | (simp; omega) | omega) _))) (hk10.below (by simp; omega) (fun q hq e => by have := (hbk q e).1; omega))
        have HBa : Hid (Below w4.heap.size w4 w10) := HBw7.out.trans (hB10.mono HBw7.out.size)
        have HBb : Hid (Below w.heap.size w w10) := hB4.trans (HBa.out.mono hs4)
        have HLa := Lib.hid (HLn4.out.below HBa.out)
        have HLb := Lib.hid ((HO37.out.below hB10).lines)
        have HO10 : Hid (OwnL 52 W7.heap.size w10 v5 ((L.take j ++ L.drop (j + 1)) ++ [((x1, x2, x3), x4 / 2), ((x1, x2, x3), x4 - x4 / 2)])) := by unfold Hid; first | exact hO10 | (rw [List.append_assoc]; exact hO10)
        have HLc := Lib.hid HO10.out.lines
        have HTx := Lib.hid (HT4.out.below HBa.out)
        have hf1 : ∀ y ∈ L, fitsL y = true := fun y hy => (HF.out y hy).1
        have hf2 : ∀ y ∈ L.drop j ++ L.take j, fitsL y = true := fun y hy => by
          rcases List.mem_append.1 hy with h | h
          · exact (HF.out y (List.mem_of_mem_drop h)).1
          · exact (HF.out y (List.mem_of_mem_take h)).1
        have HG1 := Lib.hid hf1
        have HG2 := Lib.hid hf2
        clear hf1 hf2 hO10 HO10 hk10 hbk hB10 HO9 HB9 HO37 HLn4 HT4 hB4 q0 q1 q2 q3 r0 r1 r2 r3 HQ HBw7
        go_wp2_with fail
        refine (sum_calls (HE.out.below HBb.out) (by decide) HTx.out HLa.out HG1.out).mono ?_
        rintro e w11 ⟨rfl, hb11⟩
        rw [HV1.out]
        simp only [resV]
        have HBc := Lib.hid (HBb.out.trans (hb11.mono HBb.out.size))
        have HTy := Lib.hid (HTx.out.below hb11)
        have HLd := Lib.hid (HLb.out.below hb11)
        have HLe := Lib.hid (HLc.out.below hb11)
        clear hb11 HBb HTx HLb HLc HLa
        go_wp2_with fail
        refine (sum_calls (HE.out.below HBc.out) (by decide) HTy.out HLd.out HG2.out).mono ?_
        rintro e w12 ⟨rfl, hb12⟩
        rw [HV2.out]
        simp only [resV]
        have HBd := Lib.hid (HBc.out.trans (hb12.mono HBc.out.size))
        have HTz := Lib.hid (HTy.out.below hb12)
        have HLf := Lib.hid (HLe.out.below hb12)
        clear hb12 HBc HTy HLd HLe
        go_wp2_with fail
        refine (sum_calls (HE.out.below HBd.out) (by decide) HTz.out HLf.out HF3.out).mono ?_
        rintro e w13 ⟨rfl, hb13⟩
        rw [HV3.out]
        simp only [resV]
        have HBe := Lib.hid (HBd.out.trans (hb13.mono HBd.out.size))
        clear hb13 HBd HTz HLf
        go_wp2_with fail
        go_ret
        exact ⟨by first | rfl | simp, HBe.out⟩

end Go.Proofs.YtclhajcphnpgjaaDoor
