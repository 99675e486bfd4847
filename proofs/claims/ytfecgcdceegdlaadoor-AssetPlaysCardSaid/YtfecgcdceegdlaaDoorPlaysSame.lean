/- pledgeref10.AddAsset as a whole; pledgeref.SameAssets, SameInts at lists that are the same. -/
import Derived.Test.YtfecgcdceegdlaaDoorPlaysAdd
import Derived.Test.YtfecgcdceegdlaaDoorOwn
namespace Go.Proofs.YtfecgcdceegdlaaDoor
open Go.Maps
open Go Go.RowKit
set_option linter.unusedSimpArgs false
set_option linter.unusedVariables false

theorem addRef_calls {w : World} {v : Value} {L : List AS} (hR : RdA w v L) (hL : L.length ≤ 100) (a : AS) :
    Calls Tryd.prog 21 #[v, astV a] w fun e w' => ∃ v', e = .returned (.tuple #[v', .int .i64 (errA L a)]) ∧ RdA w' v' (nextA L a) ∧ (v' = v ∨ ∀ g, v'.ownBlock = some g → w.heap.size ≤ g ∧ g < w'.heap.size) ∧ Below w.heap.size w w' := by
  cases hv : goodA a with
  | false =>
    refine (addRef_bad hR a hv).mono ?_
    rintro e w' ⟨rfl, hb⟩
    rw [show errA L a = 103 by unfold errA; rw [if_pos hv], show nextA L a = L by unfold nextA; rw [if_pos hv]]
    exact ⟨v, rfl, hR.below hb, .inl rfl, hb⟩
  | true =>
    have hvn : ¬ goodA a = false := by rw [hv]; simp
    by_cases hi : 0 ≤ findA L a.1
    · refine (addRef_there hR a hv hi).mono ?_
      rintro e w' ⟨rfl, hb⟩
      rw [show errA L a = 107 by unfold errA; rw [if_neg hvn, if_pos hi], show nextA L a = L by unfold nextA; rw [if_neg hvn, if_pos hi]]
      exact ⟨v, rfl, hR.below hb, .inl rfl, hb⟩
    · rw [show errA L a = 0 by unfold errA; rw [if_neg hvn, if_neg hi], show nextA L a = addA L a by unfold nextA; rw [if_neg hvn, if_neg hi]]
      refine (addRef_add hR hL a hv (by omega)).mono ?_
      rintro e w' ⟨v', rfl, hO, hb⟩
      exact ⟨v', rfl, hO.rd, .inr hO.block, hb⟩

theorem sameAsset_eq (a1 a2 a3 a4 a5 : Int) (w : World) : Calls Tryd.prog 29 #[assetV a1 a2 a3 a4 a5, assetV a1 a2 a3 a4 a5] w fun e w' => e = .returned (.bool true) ∧ Below w.heap.size w w' := by
  go_enter Tryd.func29, Tryd.ntmps29
  go_wp2_with fail
  go_ret
  exact ⟨rfl, by (repeat (first | exact Below.refl _ _ | assumption | refine Below.drew ?_ | refine below_many ?_ _ | refine Below.alloc ?_ (by first | (simp; done) | (simp; omega) | omega) _ | refine Below.setCell ?_ (by first | (simp; done) | (simp; omega) | omega) _))⟩

set_option maxHeartbeats 1000000 in
set_option maxRecDepth 100000 in
theorem sameAssets_calls {w : World} {v v' : Value} {L : List AS} (hR : RdA w v L) (hR' : RdA w v' L) :
    Calls Tryd.prog 30 #[v, v'] w fun e w' => e = .returned (.bool true) ∧ Below w.heap.size w w' := by
  obtain ⟨ad, cap, rfl, hlc, hcm⟩ := hR.len
  obtain ⟨ad', cap', rfl, hlc', hcm'⟩ := hR'.len
  have HR := Lib.hid hR
  have HR' := Lib.hid hR'
  clear hR hR'
  unfold maxLen at hcm hcm'
  go_enter Tryd.func30, Tryd.ntmps30
  go_wp2_with fail
  go_loopw [5, 6] (fun i u wq => ∃ k : Nat, k ≤ L.length ∧ i = .int .i64 k ∧ Hid (Below w.heap.size w wq)) (fun i _ _ => L.length - (intOf i).toNat)
  case atStart => exact ⟨0, Nat.zero_le _, rfl, Below.refl _ _⟩
  case round =>
    obtain ⟨k, hk, rfl, hB⟩ := hrel
    by_cases hkl : k < L.length
    · obtain ⟨x, hx⟩ : ∃ x, L[k]? = some x := ⟨_, List.getElem?_eq_getElem hkl⟩
      obtain ⟨g, c1, hv, hg, _, _, d0, d1, d2, d3, d4⟩ := (HR.out.below hB.out).at hx
      simp only [Value.slice.injEq, true_and] at hv
      obtain ⟨rfl, rfl⟩ := hv
      obtain ⟨g', c1', hv, hg', _, _, d0', d1', d2', d3', d4'⟩ := (HR'.out.below hB.out).at hx
      simp only [Value.slice.injEq, true_and] at hv
      obtain ⟨rfl, rfl⟩ := hv
      obtain ⟨x1, x2, x3, x4, x5⟩ := x
      try dsimp only at d0 d1 d2 d3 d4 d0' d1' d2' d3' d4'
      clear hx
      go_wp2_with fail
      (refine wp_region_still_tail 8 (by kernel_rfl) (by kernel_rfl) ?_; simp only [List.take_succ_cons, List.take_zero, List.drop_succ_cons, List.drop_zero]; change wpStill _ _ (World.drew _) _ _ _; (repeat still_step); refine wpStill_nil ?_; change wpList _ _ _ _ _ (World.drew _))
      go_wp2_with fail
      refine (sameAsset_eq _ _ _ _ _ _).mono ?_
      rintro e w4 ⟨rfl, hb4⟩
      have HB4 : Hid (Below w.heap.size w w4) := hB.out.drew.trans (hb4.mono hB.out.size)
      clear hb4 hB d0 d1 d2 d3 d4 d0' d1' d2' d3' d4'
      go_wp2_with fail
      go_roundw
      case rel => exact ⟨k + 1, by omega, by go_num, HB4⟩
      case measure => simp [intOf]; omega
    · obtain rfl : k = L.length := by omega
      go_wp2_with fail
      go_ret
      exact ⟨rfl, hB.out⟩

set_option maxHeartbeats 1000000 in
set_option maxRecDepth 100000 in
theorem sameInts_calls {w : World} {v v' : Value} {xs : List Int} {b b' : Nat} (hR : OwnI 3 b w v xs) (hR' : OwnI 3 b' w v' xs) (hl : xs.length ≤ 1000000) :
    Calls Tryd.prog 31 #[v, v'] w fun e w' => e = .returned (.bool true) ∧ Below w.heap.size w w' := by
  obtain ⟨ad, cap, rfl⟩ := hR.len
  obtain ⟨ad', cap', rfl⟩ := hR'.len
  have HR := Lib.hid hR
  have HR' := Lib.hid hR'
  clear hR hR'
  go_enter Tryd.func31, Tryd.ntmps31
  go_wp2_with fail
  go_loopw [5, 6] (fun i u wq => ∃ k : Nat, k ≤ xs.length ∧ i = .int .i64 k ∧ Hid (Below w.heap.size w wq)) (fun i _ _ => xs.length - (intOf i).toNat)
  case atStart => exact ⟨0, Nat.zero_le _, rfl, Below.refl _ _⟩
  case round =>
    obtain ⟨k, hk, rfl, hB⟩ := hrel
    by_cases hkl : k < xs.length
    · obtain ⟨g, c1, hv, _, hg, _, _, hcell, _⟩ := HR.out.cells (by intro e; rw [e] at hkl; simp at hkl)
      simp only [Value.slice.injEq, true_and] at hv
      obtain ⟨rfl, rfl⟩ := hv
      obtain ⟨g', c1', hv, _, hg', _, _, hcell', _⟩ := HR'.out.cells (by intro e; rw [e] at hkl; simp at hkl)
      simp only [Value.slice.injEq, true_and] at hv
      obtain ⟨rfl, rfl⟩ := hv
      have d0 := (hB.out.cell (p := ⟨g, k, none⟩) hg).trans (hcell k hkl)
      have d0' := (hB.out.cell (p := ⟨g', k, none⟩) hg').trans (hcell' k hkl)
      generalize xs.getD k 0 = x at d0 d0'
      have hB' : ∀ nq, Hid (Below w.heap.size w (wr.drewN nq)) := fun nq => below_many hB.out nq
      clear hcell hcell'
      go_wp2_with fail
      go_quiet (fail)
      go_wp2_with fail
      go_roundw
      case rel => exact ⟨k + 1, by omega, by go_num, hB' _⟩
      case measure => simp [intOf]; omega
    · obtain rfl : k = xs.length := by omega
      go_wp2_with fail
      go_ret
      exact ⟨rfl, hB.out⟩
end Go.Proofs.YtfecgcdceegdlaaDoor
