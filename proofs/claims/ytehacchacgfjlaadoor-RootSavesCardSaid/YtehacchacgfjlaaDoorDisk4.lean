/- (*disk.Disk).kept: what a sector had when it was flushed last. -/
import Derived.Test.YtehacchacgfjlaaDoorDisk3
namespace Go.Proofs.YtehacchacgfjlaaDoor
open Go.Maps
open Go Go.RowKit
set_option linter.unusedSimpArgs false
set_option linter.unusedVariables false

/-- What a sector has, of these; 0s. -/
def secOf (m : SecL) (i : Int) : List Int := ((mget m i).map (·.2)).getD (List.replicate 128 0)
theorem sec_look {w : World} {r : Nat} {m : SecL} (h : SecMap w r m) (i : Int) (hi : (Lit.int .i64 i).wf = true) :
    (Instr.lookup 119 (.map (some r)) (.int .i64 i) false).run Tryd.prog w = .ok (((mget m i).map secV).getD (.slice none 0 0)) w :=
  h.map.look secKeyed secInj Tryd.underlying119 (z := .slice none 0 0) (by kernel_rfl) (k := i) (secKey i hi)
section
variable {lo : Nat} {w w' : World} {d : Nat} {n : Int} {fb pb : Nat} {F P : SecL} {calls fuse : Int} {down : Bool}
set_option maxRecDepth 100000 in
theorem kept_calls (h : Dsk lo w d n fb pb F P calls fuse down) (i : Int) (hi : (Lit.int .i64 i).wf = true) :
    Calls Tryd.prog 72 #[.pointer (some ⟨d, 0, none⟩), .int .i64 i] w fun e w' => ∃ v, e = .returned v ∧ RdB w' v (secOf F i) ∧ (secOf F i).length = 128 ∧ Below w.heap.size w w' := by
  obtain ⟨i0, hi0, hz0, hz1, hz2⟩ := info_parts infoB
  have hl := sec_look h.fl i hi
  have c1 := h.c1
  cases hg : mget F i with
  | some x =>
    obtain ⟨v, bs⟩ := x
    obtain ⟨hr, hlen⟩ := h.fl.rd _ (mget_mem hg)
    simp only at hr hlen
    rw [hg] at hl
    simp only [Option.map_some, Option.getD_some, secV] at hl
    have HS : Hid (secOf F i = bs) := by unfold Hid secOf; rw [hg]; rfl
    have HL := Lib.hid hlen
    rcases hr with ⟨_, h0⟩ | ⟨g, off, cap, rfl, h1, h2, h3, h4⟩
    · rw [h0] at hlen; cases hlen
    · rw [hlen] at hl h1
      have HR : Hid (RdB w (.slice (some ⟨g, off, none⟩) 128 cap) bs) := .inr ⟨g, off, cap, by rw [hlen], by rw [hlen]; exact h1, h2, h3, h4⟩
      clear h hg hlen h4 hi
      go_enter Tryd.func72, Tryd.ntmps72
      go_wp2_with fail
      go_ret
      rw [HS.out]
      exact ⟨_, rfl, HR.out, HL.out, Below.refl _ _⟩
  | none =>
    rw [hg] at hl
    simp only [Option.map_none, Option.getD_none] at hl
    have HS : Hid (secOf F i = List.replicate 128 0) := by unfold Hid secOf; rw [hg]; rfl
    clear h hg hi
    go_enter Tryd.func72, Tryd.ntmps72
    go_wp2_with (at_make; refine wpList_make_row _ rfl _ _ 30 rfl 5 i0 (.int .u8 0) Tryd.underlying30 hi0 hz0 hz1 rfl _ _ 128 rfl rfl (by rw [hz2]; decide) (by decide) ?_; obtain ⟨w1, hw1⟩ : ∃ w1, w1 = w.alloc (.cells (madeCells #[.int .u8 0] 128) 5) := ⟨_, rfl⟩; rw [← hw1]; have HW1 := Lib.hid hw1; clear hw1)
    have hR0 : Hid (RdB w1 (.slice (some ⟨w.heap.size, 0, none⟩) 128 128) (List.replicate 128 0)) := by
      unfold Hid
      rw [HW1.out]
      exact rowIs_rd (World.rowIs_made w (.int .u8 0) 128 5)
    have hB0 : Hid (Below w.heap.size w w1) := by rw [HW1.out]; unfold Hid; (repeat (first | exact Below.refl _ _ | assumption | refine Below.drew ?_ | refine below_many ?_ _ | refine Below.alloc ?_ (by first | (simp; done) | (simp; omega) | omega) _ | refine Below.setCell ?_ (by first | (simp; done) | (simp; omega) | omega) _))
    clear HW1
    go_wp2_with fail
    go_ret
    refine ⟨_, rfl, ?_, ?_, hB0.out⟩
    · rw [HS.out]; exact hR0.out
    · rw [HS.out]; exact List.length_replicate ..
end
end Go.Proofs.YtehacchacgfjlaaDoor
