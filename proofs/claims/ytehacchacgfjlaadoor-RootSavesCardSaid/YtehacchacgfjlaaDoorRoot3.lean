/- Package root: the epoch of bytes; slices.Equal of bytes; Bytes of what may not be. -/
import Derived.Test.YtehacchacgfjlaaDoorRoot2
namespace Go.Proofs.YtehacchacgfjlaaDoor
open Go.Maps
open Go Go.RowKit
set_option linter.unusedSimpArgs false
set_option linter.unusedVariables false

set_option maxRecDepth 100000 in
theorem bytes_bad {ks : List Nat} {B : Nat} {p : Nat → Addr} {w : World} (hE : Errs ks B p w) (hk2 : 2 ∈ ks) (hk4 : 4 ∈ ks) {e : Int} {v : Value} {l : List Int} (hv : RdK .i64 w v l) (h : ¬ rootOk e l) :
    Calls Tryd.prog 31 #[rootV e v] w fun r w' => r = .returned (.tuple #[.slice none 0 0, ev p (rootErr e l)]) ∧ Below w.heap.size w w' := by
  obtain ⟨a, c, rfl, hlc, hcm⟩ := hv.len
  have hb0 : Below w.heap.size w (w.alloc (.cells #[.int .i64 e, .slice a l.length c] 48)) := by (repeat (first | exact Below.refl _ _ | assumption | refine Below.drew ?_ | refine below_many ?_ _ | refine Below.alloc ?_ (by first | (simp; done) | (simp; omega) | omega) _ | refine Below.setCell ?_ (by first | (simp; done) | (simp; omega) | omega) _))
  have HV := Lib.hid (hv.below hb0)
  have HE := Lib.hid (hE.below (hb0.mono hE.size))
  have HB0 := Lib.hid hb0
  have HN := Lib.hid h
  unfold maxLen at hcm
  clear hv hE h hb0
  go_enter Tryd.func31, Tryd.ntmps31
  go_wp2_with fail
  refine (fits_bad HE.out hk2 hk4 HV.out HN.out).mono ?_
  rintro r w1 ⟨rfl, hb⟩
  have HB1 : Hid (Below w.heap.size w w1) := HB0.out.trans (hb.mono HB0.out.size)
  generalize hkk : rootErr e l = kk
  have HKK := Lib.hid hkk
  clear hkk
  unfold ev errV
  clear hb
  go_wp2_with fail
  go_ret2
  refine ⟨?_, HB1.out⟩
  rw [HKK.out]; rfl
/-- The number that the first k bytes say. -/
def numK (bs : List Int) (k : Nat) : Int := ((List.range k).map fun j => bs.getD j 0 * 256 ^ j).sum
theorem numK_succ (bs : List Int) (k : Nat) : numK bs (k + 1) = numK bs k + bs.getD k 0 * 256 ^ k := by
  simp [numK, List.range_succ]
theorem numK_6 (bs : List Int) : numK bs 6 = num6 bs := by
  unfold num6
  simp only [numK_succ]
  simp [numK]
theorem numK_range (bs : List Int) (hb : isBytes bs) (k : Nat) : 0 ≤ numK bs k ∧ numK bs k < 256 ^ k := by
  induction k with
  | zero => simp [numK]
  | succ k ih =>
    have hx : 0 ≤ bs.getD k 0 ∧ bs.getD k 0 ≤ 255 := by
      by_cases h : k < bs.length
      · simp only [List.getD, List.getElem?_eq_getElem h, Option.getD_some]; exact hb _ (List.getElem_mem h)
      · simp [List.getD, List.getElem?_eq_none (by omega : bs.length ≤ k)]
    rw [numK_succ, Int.pow_succ]
    have h1 : 0 ≤ bs.getD k 0 * 256 ^ k := Int.mul_nonneg hx.1 (by omega)
    have h2 : bs.getD k 0 * 256 ^ k ≤ 255 * 256 ^ k := Int.mul_le_mul_of_nonneg_right hx.2 (by omega)
    omega
theorem or_low (i : Nat) (hi : i ≤ 40) (acc x : Int) (h0 : 0 ≤ acc) (h1 : acc < 2 ^ i) (hx0 : 0 ≤ x) (hx : x ≤ 255) : bits .or .i64 acc (wrap64 (x * 2 ^ i)) = acc + x * 2 ^ i := by
  have e40 : (2 : Int) ^ 40 = 1099511627776 := by decide
  have hP : (2 : Int) ^ i ≤ 2 ^ 40 := by exact_mod_cast Nat.pow_le_pow_right (show 0 < 2 by decide) hi
  have hP0 : (0 : Int) < 2 ^ i := by exact_mod_cast Nat.two_pow_pos i
  have hm0 : 0 ≤ x * 2 ^ i := Int.mul_nonneg hx0 (by omega)
  have hm1 : x * 2 ^ i ≤ 255 * 2 ^ i := Int.mul_le_mul_of_nonneg_right hx (by omega)
  have hw : wrap64 (x * 2 ^ i) = x * 2 ^ i := by unfold wrap64; omega
  have hwr : ∀ n : Int, 0 ≤ n → n < 2 ^ 62 → IntKind.i64.wrap n = n := fun n h2 h3 => IntWalk.i64_in n ⟨by omega, by
    have : (2 : Int) ^ 62 = 4611686018427387904 := by decide
    omega⟩
  have e62 : (2 : Int) ^ 62 = 4611686018427387904 := by decide
  have hd : x * 2 ^ i % 2 ^ i = 0 := Int.mul_emod_left ..
  rw [hw]
  have hcomm : bits .or .i64 acc (x * 2 ^ i) = bits .or .i64 (x * 2 ^ i) acc := by
    obtain ⟨a, ha⟩ := Int.eq_ofNat_of_zero_le h0
    obtain ⟨b, hb⟩ := Int.eq_ofNat_of_zero_le hm0
    have ha' : a < 2 ^ 62 := by
      have : (a : Int) < 2 ^ 62 := by omega
      exact_mod_cast this
    have hb' : b < 2 ^ 62 := by
      have : (b : Int) < 2 ^ 62 := by omega
      exact_mod_cast this
    rw [hb, ha, (bits_nat .i64 62 (by decide) hwr a b ha' hb').2, (bits_nat .i64 62 (by decide) hwr b a hb' ha').2, Nat.or_comm]
  rw [hcomm, bits_join .i64 62 (by decide) hwr i (x * 2 ^ i) acc hm0 hd (by omega) h0 h1 (by omega)]
  omega
set_option maxHeartbeats 2000000 in
set_option maxRecDepth 100000 in
theorem rnum_calls {w : World} {v : Value} {bs : List Int} (hv : RdB w v bs) (h6 : 6 ≤ bs.length) (hb : isBytes bs) :
    Calls Tryd.prog 77 #[v] w fun r w' => r = .returned (.int .i64 (num6 bs)) ∧ w = w' := by
  obtain ⟨a, c, rfl, hlc, hcm⟩ := hv.len
  unfold maxLen at hcm
  have HV := Lib.hid hv
  have HBy := Lib.hid hb
  clear hv hb
  go_enter Tryd.func77, Tryd.ntmps77
  go_wp2_with fail
  go_loop [5, 3] (fun i u => ∃ k : Nat, k ≤ 6 ∧ i = .int .i64 k ∧ u = .int .i64 (numK bs k)) (fun i _ => 6 - (intOf i).toNat)
  case atStart => exact ⟨0, Nat.zero_le _, rfl, rfl⟩
  case round =>
    obtain ⟨k, hk, rfl, rfl⟩ := hrel
    by_cases hkl : k < 6
    · rcases HV.out with ⟨_, h0⟩ | ⟨g, off, cc, hvv, _, _, hg, hcell⟩
      · rw [h0] at h6; simp at h6
      simp only [Value.slice.injEq, true_and] at hvv
      obtain ⟨rfl, rfl⟩ := hvv
      have hc := hcell k (by omega)
      have hS := Lib.hid (numK_succ bs k)
      have hr := numK_range bs HBy.out k
      have hx : 0 ≤ bs.getD k 0 ∧ bs.getD k 0 ≤ 255 := by
        simp only [List.getD, List.getElem?_eq_getElem (show k < bs.length by omega), Option.getD_some]; exact HBy.out _ (List.getElem_mem _)
      generalize bs.getD k 0 = x at hc hS hx
      have HRg := Lib.hid hr
      clear hcell hr
      generalize numK bs k = acc at hS HRg ⊢
      go_wp2_with fail
      go_round
      case rel =>
        refine ⟨k + 1, by omega, by go_num, ?_⟩
        rw [hS.out, or_low (8 * k) (by omega) acc x HRg.out.1 (by rw [Int.pow_mul]; exact HRg.out.2) hx.1 hx.2, Int.pow_mul]
        rfl
      case measure => simp [intOf]; omega
    · obtain rfl : k = 6 := by omega
      have HN := Lib.hid (numK_6 bs)
      go_wp2_with fail
      go_ret
      exact ⟨by rw [HN.out]; rfl, rfl⟩
/-- slices.Equal of bytes. -/
theorem getD_eq {xs ys : List Int} (hl : xs.length = ys.length) (h : ∀ i, i < xs.length → xs.getD i 0 = ys.getD i 0) : xs = ys := by
  refine List.ext_getElem hl fun i h1 h2 => ?_
  have := h i h1
  simpa [List.getD, h1, h2] using this
set_option maxHeartbeats 2000000 in
set_option maxRecDepth 100000 in
theorem equalB_calls {w : World} {v v' : Value} {xs ys : List Int} (hv : RdB w v xs) (hv' : RdB w v' ys) :
    Calls Tryd.prog 78 #[v, v'] w fun r w' => r = .returned (.bool (decide (xs = ys))) ∧ Below w.heap.size w w' := by
  obtain ⟨a, c, rfl, hlc, hcm⟩ := hv.len
  obtain ⟨a', c', rfl, hlc', hcm'⟩ := hv'.len
  unfold maxLen at hcm hcm'
  have HV := Lib.hid hv
  have HV' := Lib.hid hv'
  clear hv hv'
  by_cases hl : xs.length = ys.length
  · have HL := Lib.hid hl
    have hq : ((xs.length : Int) != (ys.length : Int)) = false := by simp [hl]
    clear hl
    go_enter Tryd.func78, Tryd.ntmps78
    go_wp2_with fail
    clear hq
    go_loopw [13] (fun i wq => ∃ k : Nat, k ≤ xs.length ∧ i = .int .i64 k ∧ Hid (∀ j, j < k → xs.getD j 0 = ys.getD j 0) ∧ Hid (Below w.heap.size w wq)) (fun i _ => xs.length - (intOf i).toNat)
    case atStart => exact ⟨0, Nat.zero_le _, rfl, fun j hj => absurd hj (Nat.not_lt_zero j), Below.refl _ _⟩
    case round =>
      obtain ⟨k, hk, rfl, hE, hB⟩ := hrel
      by_cases hkl : k < xs.length
      · have hkl' : k < ys.length := by have := HL.out; omega
        rcases HV.out with ⟨_, h0⟩ | ⟨g, off, cc, hvv, h1, h2, hg, hcell⟩
        · rw [h0] at hkl; simp at hkl
        rcases HV'.out with ⟨_, h0⟩ | ⟨g', off', cc', hvv', h1', h2', hg', hcell'⟩
        · rw [h0] at hkl'; simp at hkl'
        simp only [Value.slice.injEq, true_and] at hvv hvv'
        obtain ⟨rfl, rfl⟩ := hvv
        obtain ⟨rfl, rfl⟩ := hvv'
        have d0 := (hB.out.cell (p := ⟨g, off + k, none⟩) hg).trans (hcell k hkl)
        have d0' := (hB.out.cell (p := ⟨g', off' + k, none⟩) hg').trans (hcell' k hkl')
        have hB' : ∀ nq, Hid (Below w.heap.size w (wr.drewN nq)) := fun nq => below_many hB.out nq
        clear hcell hcell'
        by_cases hq : xs.getD k 0 = ys.getD k 0
        · have HE' : Hid (∀ j, j < k + 1 → xs.getD j 0 = ys.getD j 0) := fun j hj => by
            by_cases e : j = k
            · rw [e]; exact hq
            · exact hE.out j (by omega)
          rw [← hq] at d0'
          generalize xs.getD k 0 = x at d0 d0'
          clear hq
          go_wp2_with fail
          go_quiet (fail)
          go_wp2_with fail
          go_roundw
          case rel => exact ⟨k + 1, by omega, by go_num, HE', hB' _⟩
          case measure => simp [intOf]; omega
        · have HNe : Hid (decide (xs = ys) = false) := decide_eq_false fun e => hq (by rw [e])
          have hqb : (xs.getD k 0 != ys.getD k 0) = true := by simpa using hq
          generalize xs.getD k 0 = x at d0 hqb
          generalize ys.getD k 0 = y at d0' hqb
          clear hq
          go_wp2_with fail
          go_quiet (fail)
          go_wp2_with fail
          go_ret
          exact ⟨by rw [HNe.out]; rfl, hB' _⟩
      · obtain rfl : k = xs.length := by omega
        have HNe : Hid (decide (xs = ys) = true) := decide_eq_true (getD_eq HL.out hE.out)
        go_wp2_with fail
        go_ret
        exact ⟨by rw [HNe.out]; rfl, hB.out⟩
  · have hq : ((xs.length : Int) != (ys.length : Int)) = true := by simp; omega
    have HNe : Hid (decide (xs = ys) = false) := decide_eq_false fun e => hl (by rw [e])
    clear hl
    go_enter Tryd.func78, Tryd.ntmps78
    go_wp2_with fail
    go_ret
    exact ⟨by rw [HNe.out]; rfl, Below.refl _ _⟩
end Go.Proofs.YtehacchacgfjlaaDoor
