/- pledgeref.Bytes: a copy of bytes. -/
import Derived.Test.YtchbkceconlbkaaGreatDoorBytA
import Derived.Test.YtchbkceconlbkaaGreatDoorRdI
namespace Go.Proofs.YtchbkceconlbkaaGreatDoor
open Go Go.RowKit
set_option linter.unusedSimpArgs false
set_option linter.unusedVariables false

theorem take_snocB {xs : List Int} {m : Nat} (h : m < xs.length) : xs.take (m + 1) = xs.take m ++ [xs.getD m 0] := by
  rw [List.take_add_one, List.getElem?_eq_getElem h]
  simp [List.getD, h]
set_option maxHeartbeats 2000000 in
set_option maxRecDepth 100000 in
theorem refBytes_calls {w : World} {v : Value} {xs : List Int} (hv : RdB w v xs) (hl : xs.length ≤ 100000) :
    Calls Tryz.prog 55 #[v] w fun e w' => ∃ u, e = .returned u ∧ OwnB w.heap.size w' u xs ∧ Below w.heap.size w w' := by
  obtain ⟨a, c, rfl, hlc, hcm⟩ := hv.len
  obtain ⟨i0, hi, hz0, hz1, hz2⟩ := info_parts infoB
  unfold maxLen at hcm
  have HV := Lib.hid hv
  clear hv
  go_enter Tryz.func55, Tryz.ntmps55
  go_wp2_with (at_make; refine wpList_make_own _ rfl _ _ 24 rfl w.heap.size 5 i0 (.int .u8 0) 1 Tryz.underlying24 hi hz0 hz1 _ _ _ xs.length rfl rfl rfl (by rw [hz2]; omega) (by unfold maxLen; omega) (Nat.le_refl _) ?_)
  intro w1 hO1 hg1
  have HO1 : Hid (OwnB w.heap.size w1 (.slice (some ⟨w.heap.size, 0, none⟩) 0 xs.length) (xs.take 0)) := hO1
  have HB1 : Hid (Below w.heap.size w w1) := (Below.refl _ _).grown hg1 (Nat.le_refl _) (fun k hk => by cases hk)
  clear hO1 hg1
  go_wp2_with fail
  go_loopw [4, 3] (fun i u wq => ∃ k : Nat, k ≤ xs.length ∧ i = .int .i64 k ∧ Hid (OwnB w.heap.size wq u (xs.take k)) ∧ Hid (Below w.heap.size w wq)) (fun i _ _ => xs.length - (intOf i).toNat)
  case atStart => exact ⟨0, Nat.zero_le _, rfl, HO1, HB1⟩
  case round =>
    obtain ⟨k, hk, rfl, hO, hB⟩ := hrel
    by_cases hkl : k < xs.length
    · rcases HV.out with ⟨_, h0⟩ | ⟨b, off, c1, hvv, _, _, hb, hcell⟩
      · rw [h0] at hkl; simp at hkl
      simp only [Value.slice.injEq, true_and] at hvv
      obtain ⟨rfl, rfl⟩ := hvv
      have d1 := (hB.out.cell (p := ⟨b, off + k, none⟩) hb).trans (hcell k hkl)
      have hs := hB.out.size
      have HT := Lib.hid (take_snocB hkl)
      have HTl : Hid ((xs.take k).length + 1 ≤ 1000000) := by unfold Hid; rw [List.length_take]; omega
      generalize xs.getD k 0 = x at d1 HT
      clear hcell
      go_wp2_with (at_builtin; refine wpList_appB rfl _ _ 24 rfl Tryz.underlying24 infoB w.heap.size _ (xs.take k) [x] rfl (hO.out.alloc _) _ rfl (rdB_one wr x _) HTl.out (by simp; omega) ?_)
      intro v5 w5 hO5 hk5
      have HO5 : Hid (OwnB w.heap.size w5 v5 (xs.take (k + 1))) := by unfold Hid; rw [HT.out]; exact hO5
      have HB5 : Hid (Below w.heap.size w w5) := Below.trans (show Below w.heap.size w (wr.alloc (.cells #[.int .u8 x] 5)) by have := hB.out; (repeat (first | exact Below.refl _ _ | assumption | refine Below.drew ?_ | refine below_many ?_ _ | refine Below.alloc ?_ (by first | (simp; done) | (simp; omega) | omega) _ | refine Below.setCell ?_ (by first | (simp; done) | (simp; omega) | omega) _))) (hk5.below (by simp; omega) (fun z hz e => by have := hO.out.block z e; omega))
      clear hO5 hk5 hO hB
      go_wp2_with fail
      go_roundw
      case rel => exact ⟨k + 1, by omega, by go_num, HO5, HB5⟩
      case measure => simp [intOf]; omega
    · obtain rfl : k = xs.length := by omega
      have hO' := hO.out
      rw [List.take_length] at hO'
      have HO' := Lib.hid hO'
      clear hO' hO
      go_wp2_with fail
      go_ret
      exact ⟨_, rfl, HO'.out, hB.out⟩
end Go.Proofs.YtchbkceconlbkaaGreatDoor
