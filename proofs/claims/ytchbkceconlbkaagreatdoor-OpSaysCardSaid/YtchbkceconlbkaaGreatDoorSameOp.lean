/- pledgeref.SameOp at any two operations; pledgeref.SameBytes at any bytes. (Written by gen_same.py.) -/
import Derived.Test.YtchbkceconlbkaaGreatDoorBackLaw
import Derived.Test.YtchbkceconlbkaaGreatDoorRefB
import Derived.Deep.DeepCutAuto
namespace Go.Proofs.YtchbkceconlbkaaGreatDoor
open Go Go.RowKit
set_option linter.unusedSimpArgs false
set_option linter.unusedVariables false

set_option maxHeartbeats 8000000 in
set_option maxRecDepth 100000 in
theorem sameOp_calls (id k a b c d n m id' k' a' b' c' d' n' m' : Int) (w : World) :
    Calls Tryz.prog 20 #[opV id k a b c d n m, opV id' k' a' b' c' d' n' m'] w fun e w' => e = .returned (.bool (sameO id k a b c d n m id' k' a' b' c' d' n' m')) ∧ Below w.heap.size w w' := by
  obtain ⟨r, hr⟩ : ∃ r, r = sameO id k a b c d n m id' k' a' b' c' d' n' m' := ⟨_, rfl⟩
  rw [← hr]
  have HR := Lib.hid hr
  clear hr
  have hb : Below w.heap.size w ((w.alloc (Obj.cells #[.int .i64 id, .int .i64 k, .int .i64 a, .int .i64 b, .int .i64 c, .int .i64 d, .int .i64 n, .int .i64 m] 23)).alloc (Obj.cells #[.int .i64 id', .int .i64 k', .int .i64 a', .int .i64 b', .int .i64 c', .int .i64 d', .int .i64 n', .int .i64 m'] 23)) := by (repeat (first | exact Below.refl _ _ | assumption | refine Below.drew ?_ | refine below_many ?_ _ | refine Below.alloc ?_ (by first | (simp; done) | (simp; omega) | omega) _ | refine Below.setCell ?_ (by first | (simp; done) | (simp; omega) | omega) _))
  have HB := Lib.hid hb
  have hO1 := (opAt_new w id k a b c d n m 23).below ((Below.refl _ _).alloc (Nat.le_refl _) (Obj.cells #[.int .i64 id', .int .i64 k', .int .i64 a', .int .i64 b', .int .i64 c', .int .i64 d', .int .i64 n', .int .i64 m'] 23))
  have hO2 := opAt_new (w.alloc (Obj.cells #[.int .i64 id, .int .i64 k, .int .i64 a, .int .i64 b, .int .i64 c, .int .i64 d, .int .i64 n, .int .i64 m] 23)) id' k' a' b' c' d' n' m' 23
  rw [show (w.alloc (Obj.cells #[.int .i64 id, .int .i64 k, .int .i64 a, .int .i64 b, .int .i64 c, .int .i64 d, .int .i64 n, .int .i64 m] 23)).heap.size = w.heap.size + 1 by simp] at hO2
  have x0 := hO1.c0; have y0 := hO2.c0
  have x1 := hO1.c1; have y1 := hO2.c1
  have x2 := hO1.c2; have y2 := hO2.c2
  have x3 := hO1.c3; have y3 := hO2.c3
  have x4 := hO1.c4; have y4 := hO2.c4
  have x5 := hO1.c5; have y5 := hO2.c5
  have x6 := hO1.c6; have y6 := hO2.c6
  have x7 := hO1.c7; have y7 := hO2.c7
  clear hO1 hO2 hb
  go_enter Tryz.func20, Tryz.ntmps20
  go_upto_region 1 with fail
  obtain ⟨W2, hW2⟩ : ∃ W2, W2 = (w.alloc (Obj.cells #[.int .i64 id, .int .i64 k, .int .i64 a, .int .i64 b, .int .i64 c, .int .i64 d, .int .i64 n, .int .i64 m] 23)).alloc (Obj.cells #[.int .i64 id', .int .i64 k', .int .i64 a', .int .i64 b', .int .i64 c', .int .i64 d', .int .i64 n', .int .i64 m'] 23) := ⟨_, rfl⟩
  rw [← hW2] at x0 y0 x1 y1 x2 y2 x3 y3 x4 y4 x5 y5 x6 y6 x7 y7 ⊢
  have HBW : Hid (Below w.heap.size w W2) := by rw [hW2]; exact HB.out
  clear hW2 HB
  by_cases e0 : id = id'
  case neg =>
    have hq : (id == id') = false := by simpa using e0
    obtain rfl : r = false := by rw [HR.out]; unfold sameO; rw [decide_eq_false]; intro h; simp only [numsO, List.cons.injEq, and_true] at h; exact e0 (by simp [h])
    clear e0
    go_wp2_with fail
    go_ret
    exact ⟨rfl, HBW.out⟩
  subst e0
  have q0 : (id == id) = true := by simp
  by_cases e1 : k = k'
  case neg =>
    have hq : (k == k') = false := by simpa using e1
    obtain rfl : r = false := by rw [HR.out]; unfold sameO; rw [decide_eq_false]; intro h; simp only [numsO, List.cons.injEq, and_true] at h; exact e1 (by simp [h])
    clear e1
    go_wp2_with fail
    go_ret
    exact ⟨rfl, HBW.out⟩
  subst e1
  have q1 : (k == k) = true := by simp
  by_cases e2 : a = a'
  case neg =>
    have hq : (a == a') = false := by simpa using e2
    obtain rfl : r = false := by rw [HR.out]; unfold sameO; rw [decide_eq_false]; intro h; simp only [numsO, List.cons.injEq, and_true] at h; exact e2 (by simp [h])
    clear e2
    go_wp2_with fail
    go_ret
    exact ⟨rfl, HBW.out⟩
  subst e2
  have q2 : (a == a) = true := by simp
  by_cases e3 : b = b'
  case neg =>
    have hq : (b == b') = false := by simpa using e3
    obtain rfl : r = false := by rw [HR.out]; unfold sameO; rw [decide_eq_false]; intro h; simp only [numsO, List.cons.injEq, and_true] at h; exact e3 (by simp [h])
    clear e3
    go_wp2_with fail
    go_ret
    exact ⟨rfl, HBW.out⟩
  subst e3
  have q3 : (b == b) = true := by simp
  by_cases e4 : c = c'
  case neg =>
    have hq : (c == c') = false := by simpa using e4
    obtain rfl : r = false := by rw [HR.out]; unfold sameO; rw [decide_eq_false]; intro h; simp only [numsO, List.cons.injEq, and_true] at h; exact e4 (by simp [h])
    clear e4
    go_wp2_with fail
    go_ret
    exact ⟨rfl, HBW.out⟩
  subst e4
  have q4 : (c == c) = true := by simp
  by_cases e5 : d = d'
  case neg =>
    have hq : (d == d') = false := by simpa using e5
    obtain rfl : r = false := by rw [HR.out]; unfold sameO; rw [decide_eq_false]; intro h; simp only [numsO, List.cons.injEq, and_true] at h; exact e5 (by simp [h])
    clear e5
    go_wp2_with fail
    go_ret
    exact ⟨rfl, HBW.out⟩
  subst e5
  have q5 : (d == d) = true := by simp
  by_cases e6 : n = n'
  case neg =>
    have hq : (n == n') = false := by simpa using e6
    obtain rfl : r = false := by rw [HR.out]; unfold sameO; rw [decide_eq_false]; intro h; simp only [numsO, List.cons.injEq, and_true] at h; exact e6 (by simp [h])
    clear e6
    go_wp2_with fail
    go_ret
    exact ⟨rfl, HBW.out⟩
  subst e6
  have q6 : (n == n) = true := by simp
  by_cases e7 : m = m'
  case neg =>
    have hq : (m == m') = false := by simpa using e7
    obtain rfl : r = false := by rw [HR.out]; unfold sameO; rw [decide_eq_false]; intro h; simp only [numsO, List.cons.injEq, and_true] at h; exact e7 (by simp [h])
    clear e7
    go_wp2_with fail
    go_ret
    exact ⟨rfl, HBW.out⟩
  subst e7
  have q7 : (m == m) = true := by simp
  obtain rfl : r = true := by rw [HR.out]; unfold sameO; rw [decide_eq_true rfl]
  go_wp2_with fail
  go_ret
  exact ⟨rfl, HBW.out⟩

theorem getD_eqB {xs ys : List Int} (hl : xs.length = ys.length) (h : ∀ i, i < xs.length → xs.getD i 0 = ys.getD i 0) : xs = ys := by
  refine List.ext_getElem hl fun i h1 h2 => ?_
  have := h i h1
  simpa [List.getD, h1, h2] using this
set_option maxHeartbeats 2000000 in
set_option maxRecDepth 100000 in
theorem sameBytesG_calls {w : World} {v v' : Value} {xs ys : List Int} (hv : RdB w v xs) (hv' : RdB w v' ys) :
    Calls Tryz.prog 11 #[v, v'] w fun r w' => r = .returned (.bool (decide (xs = ys))) ∧ Below w.heap.size w w' := by
  obtain ⟨a, c, rfl, hlc, hcm⟩ := hv.len
  obtain ⟨a', c', rfl, hlc', hcm'⟩ := hv'.len
  unfold maxLen at hcm hcm'
  have HV := Lib.hid hv
  have HV' := Lib.hid hv'
  clear hv hv'
  by_cases hl : xs.length = ys.length
  · have HL := Lib.hid hl
    have hq : ((xs.length : Int) != (ys.length : Int)) = false := by simp [hl]
    clear hl
    go_enter Tryz.func11, Tryz.ntmps11
    go_wp2_with fail
    clear hq
    go_loopw [5, 6] (fun i u wq => ∃ k : Nat, k ≤ xs.length ∧ i = .int .i64 k ∧ Hid (∀ j, j < k → xs.getD j 0 = ys.getD j 0) ∧ Hid (Below w.heap.size w wq)) (fun i _ _ => xs.length - (intOf i).toNat)
    case atStart => exact ⟨0, Nat.zero_le _, rfl, fun j hj => absurd hj (Nat.not_lt_zero j), Below.refl _ _⟩
    case round =>
      obtain ⟨k, hk, rfl, hE, hB⟩ := hrel
      by_cases hkl : k < xs.length
      · have hkl' : k < ys.length := by have := HL.out; omega
        rcases HV.out with ⟨_, h0⟩ | ⟨g, off, cc, hvv, h1, h2, hg, hcell⟩
        · rw [h0] at hkl; simp at hkl
        rcases HV'.out with ⟨_, h0⟩ | ⟨g', off', cc', hvv', h1', h2', hg', hcell'⟩
        · rw [h0] at hkl'; simp at hkl'
        simp only [Value.slice.injEq, true_and] at hvv hvv'
        obtain ⟨rfl, rfl⟩ := hvv
        obtain ⟨rfl, rfl⟩ := hvv'
        have d0 := (hB.out.cell (p := ⟨g, off + k, none⟩) hg).trans (hcell k hkl)
        have d0' := (hB.out.cell (p := ⟨g', off' + k, none⟩) hg').trans (hcell' k hkl')
        have hB' : ∀ nq, Hid (Below w.heap.size w (wr.drewN nq)) := fun nq => below_many hB.out nq
        clear hcell hcell'
        by_cases hq : xs.getD k 0 = ys.getD k 0
        · have HE' : Hid (∀ j, j < k + 1 → xs.getD j 0 = ys.getD j 0) := fun j hj => by
            by_cases e : j = k
            · rw [e]; exact hq
            · exact hE.out j (by omega)
          rw [← hq] at d0'
          generalize xs.getD k 0 = x at d0 d0'
          clear hq
          go_wp2_with fail
          go_quiet (fail)
          go_wp2_with fail
          go_roundw
          case rel => exact ⟨k + 1, by omega, by go_num, HE', hB' _⟩
          case measure => simp [intOf]; omega
        · have HNe : Hid (decide (xs = ys) = false) := decide_eq_false fun e => hq (by rw [e])
          have hqb : (xs.getD k 0 == ys.getD k 0) = false := by simpa using hq
          generalize xs.getD k 0 = x at d0 hqb
          generalize ys.getD k 0 = y at d0' hqb
          clear hq
          go_wp2_with fail
          go_quiet (fail)
          go_wp2_with fail
          go_ret
          exact ⟨by rw [HNe.out]; rfl, hB' _⟩
      · obtain rfl : k = xs.length := by omega
        have HNe : Hid (decide (xs = ys) = true) := decide_eq_true (getD_eqB HL.out hE.out)
        go_wp2_with fail
        go_ret
        exact ⟨by rw [HNe.out]; rfl, hB.out⟩
  · have hq : ((xs.length : Int) != (ys.length : Int)) = true := by simp; omega
    have HNe : Hid (decide (xs = ys) = false) := decide_eq_false fun e => hl (by rw [e])
    clear hl
    go_enter Tryz.func11, Tryz.ntmps11
    go_wp2_with fail
    go_ret
    exact ⟨by rw [HNe.out]; rfl, Below.refl _ _⟩
end Go.Proofs.YtchbkceconlbkaaGreatDoor
