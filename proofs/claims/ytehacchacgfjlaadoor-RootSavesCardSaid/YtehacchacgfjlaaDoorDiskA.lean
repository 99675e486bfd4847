/- pledgeref.SameBytes at bytes that are the same; Read where the disk is down. -/
import Derived.Test.YtehacchacgfjlaaDoorDisk9
namespace Go.Proofs.YtehacchacgfjlaaDoor
open Go.Maps
open Go Go.RowKit
set_option linter.unusedSimpArgs false
set_option linter.unusedVariables false

set_option maxHeartbeats 1000000 in
set_option maxRecDepth 100000 in
theorem sameBytes_calls {w : World} {v v' : Value} {bs : List Int} (hR : RdB w v bs) (hR' : RdB w v' bs) (hl : bs.length ≤ 1000000) :
    Calls Tryd.prog 26 #[v, v'] w fun e w' => e = .returned (.bool true) ∧ Below w.heap.size w w' := by
  obtain ⟨ad, cap, rfl, hc1, _⟩ := hR.len
  obtain ⟨ad', cap', rfl, hc2, _⟩ := hR'.len
  have HR := Lib.hid hR
  have HR' := Lib.hid hR'
  clear hR hR'
  go_enter Tryd.func26, Tryd.ntmps26
  go_wp2_with fail
  go_loopw [5, 6] (fun i u wq => ∃ k : Nat, k ≤ bs.length ∧ i = .int .i64 k ∧ Hid (Below w.heap.size w wq)) (fun i _ _ => bs.length - (intOf i).toNat)
  case atStart => exact ⟨0, Nat.zero_le _, rfl, Below.refl _ _⟩
  case round =>
    obtain ⟨k, hk, rfl, hB⟩ := hrel
    by_cases hkl : k < bs.length
    · rcases HR.out with ⟨_, h0⟩ | ⟨g, off, c, hv, h1, h2, hg, hcell⟩
      · rw [h0] at hkl; simp at hkl
      rcases HR'.out with ⟨_, h0⟩ | ⟨g', off', c', hv', h1', h2', hg', hcell'⟩
      · rw [h0] at hkl; simp at hkl
      simp only [Value.slice.injEq, true_and] at hv hv'
      obtain ⟨rfl, rfl⟩ := hv
      obtain ⟨rfl, rfl⟩ := hv'
      have d0 := (hB.out.cell (p := ⟨g, off + k, none⟩) hg).trans (hcell k hkl)
      have d0' := (hB.out.cell (p := ⟨g', off' + k, none⟩) hg').trans (hcell' k hkl)
      generalize bs.getD k 0 = x at d0 d0'
      have hB' : ∀ nq, Hid (Below w.heap.size w (wr.drewN nq)) := fun nq => below_many hB.out nq
      clear hcell hcell'
      go_wp2_with fail
      go_quiet (fail)
      go_wp2_with fail
      go_roundw
      case rel => exact ⟨k + 1, by omega, by go_num, hB' _⟩
      case measure => simp [intOf]; omega
    · obtain rfl : k = bs.length := by omega
      go_wp2_with fail
      go_ret
      exact ⟨rfl, hB.out⟩
section
variable {lo : Nat} {w w' : World} {d : Nat} {n : Int} {fb pb : Nat} {F P : SecL} {calls fuse : Int} {down : Bool}
set_option maxRecDepth 100000 in
theorem read_none {ks : List Nat} {B : Nat} {p : Nat → Addr} (hE : Errs ks B p w) (h7 : 7 ∈ ks) (h : Dsk lo w d n fb pb F P calls fuse false) (i : Int) (hi : i < 0 ∨ n ≤ i) :
    Calls Tryd.prog 25 #[.pointer (some ⟨d, 0, none⟩), .int .i64 i] w fun e w' => e = .returned (.tuple #[.slice none 0 0, ev p 7]) ∧ Below w.heap.size w w' := by
  have c7 := hE.cell 7 h7
  simp only [gl] at c7
  try unfold ev errV at c7
  have c0 := h.c0
  have c5 := h.c5
  clear hE h
  by_cases h0 : i < 0
  · clear hi
    go_enter Tryd.func25, Tryd.ntmps25
    go_wp2_with fail
    go_quiet (fail)
    go_wp2_with fail
    go_ret2
    exact ⟨rfl, by (repeat (first | exact Below.refl _ _ | assumption | refine Below.drew ?_ | refine below_many ?_ _ | refine Below.alloc ?_ (by first | (simp; done) | (simp; omega) | omega) _ | refine Below.setCell ?_ (by first | (simp; done) | (simp; omega) | omega) _))⟩
  · have hi' : n ≤ i := hi.resolve_left h0
    clear hi
    go_enter Tryd.func25, Tryd.ntmps25
    go_wp2_with fail
    go_quiet (fail)
    go_wp2_with fail
    go_ret2
    exact ⟨rfl, by (repeat (first | exact Below.refl _ _ | assumption | refine Below.drew ?_ | refine below_many ?_ _ | refine Below.alloc ?_ (by first | (simp; done) | (simp; omega) | omega) _ | refine Below.setCell ?_ (by first | (simp; done) | (simp; omega) | omega) _))⟩
set_option maxRecDepth 100000 in
theorem read_down {ks : List Nat} {B : Nat} {p : Nat → Addr} (hE : Errs ks B p w) (h8 : 8 ∈ ks) (h : Dsk lo w d n fb pb F P calls fuse true) (i : Int) :
    Calls Tryd.prog 25 #[.pointer (some ⟨d, 0, none⟩), .int .i64 i] w fun e w' => e = .returned (.tuple #[.slice none 0 0, ev p 8]) ∧ Below w.heap.size w w' := by
  have c8 := hE.cell 8 h8
  simp only [gl] at c8
  try unfold ev errV at c8
  have c5 := h.c5
  clear hE h
  go_enter Tryd.func25, Tryd.ntmps25
  go_wp2_with fail
  go_quiet (fail)
  go_wp2_with fail
  go_ret2
  exact ⟨rfl, by (repeat (first | exact Below.refl _ _ | assumption | refine Below.drew ?_ | refine below_many ?_ _ | refine Below.alloc ?_ (by first | (simp; done) | (simp; omega) | omega) _ | refine Below.setCell ?_ (by first | (simp; done) | (simp; omega) | omega) _))⟩
set_option maxRecDepth 100000 in
theorem arm_calls (h : Dsk lo w d n fb pb F P calls fuse down) (k : Int) :
    Calls Tryd.prog 27 #[.pointer (some ⟨d, 0, none⟩), .int .i64 k] w fun e w' => e = .returned (.tuple #[]) ∧ Dsk lo w' d n fb pb F P calls (if k < 0 then 0 else k) down ∧ Keep (fun x => x = d) w w' := by
  have HD := Lib.hid h
  have c4 := h.c4
  have f4 := h.free 4
  clear h
  by_cases h0 : k < 0
  · go_enter Tryd.func27, Tryd.ntmps27
    go_wp2_with fail
    go_end0
    exact ⟨rfl, HD.out.setFuse 0, keep_setCell _ ⟨d, 4, none⟩ _⟩
  · have h1 : 0 ≤ k := by omega
    go_enter Tryd.func27, Tryd.ntmps27
    go_wp2_with fail
    go_end0
    exact ⟨rfl, HD.out.setFuse k, keep_setCell _ ⟨d, 4, none⟩ _⟩
end
end Go.Proofs.YtehacchacgfjlaaDoor
