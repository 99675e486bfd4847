/- pledgelaw5.whole; disk.New, Pending, Calls, Arm, Down; a disk in memory. -/
import Derived.Test.YtehacchacgfjlaaDoorDisk0
import Derived.Test.YtehacchacgfjlaaDoorMap2
import Derived.Test.YtehacchacgfjlaaDoorErr
import Derived.Deep.OwnRows
namespace Go.Proofs.YtehacchacgfjlaaDoor
open Go.Maps
open Go Go.RowKit
set_option linter.unusedSimpArgs false
set_option linter.unusedVariables false

theorem rowIs_below {w w' : World} {b : Nat} {t : TypeId} {n : Nat} {f : Nat → Value} (h : w.rowIs b t n f) (k : Below w.heap.size w w') : w'.rowIs b t n f := h.of_block (k.block b h.lt)
theorem rowIs_rd {w : World} {b : Nat} {t : TypeId} {x : Int} (h : w.rowIs b t 128 (fun _ => bV x)) : RdB w (.slice (some ⟨b, 0, none⟩) 128 128) (List.replicate 128 x) := by
  refine .inr ⟨b, 0, 128, by simp, by simp, by decide, h.lt, fun i hi => ?_⟩
  rw [List.length_replicate] at hi
  rw [Nat.zero_add, h.cell hi, List.getD, List.getElem?_replicate, if_pos hi]
  rfl

set_option maxHeartbeats 1000000 in
set_option maxRecDepth 100000 in
theorem whole_calls (b : Int) (w : World) :
    Calls Tryd.prog 22 #[.int .u8 b] w fun e w' => e = .returned (.slice (some ⟨w.heap.size, 0, none⟩) 128 128) ∧ w'.rowIs w.heap.size 5 128 (fun _ => bV b) ∧ Below w.heap.size w w' := by
  obtain ⟨i0, hi, hz0, hz1, hz2⟩ := info_parts infoB
  go_enter Tryd.func22, Tryd.ntmps22
  go_wp2_with (at_make; refine wpList_make_row _ rfl _ _ 30 rfl 5 i0 (.int .u8 0) Tryd.underlying30 hi hz0 hz1 rfl _ _ 128 rfl rfl (by rw [hz2]; decide) (by decide) ?_; obtain ⟨w1, hw1⟩ : ∃ w1, w1 = w.alloc (.cells (madeCells #[.int .u8 0] 128) 5) := ⟨_, rfl⟩; rw [← hw1]; have HW1 := Lib.hid hw1; clear hw1)
  have hR0 : Hid (w1.rowIs w.heap.size 5 128 (fun j => if j < 0 then bV b else bV 0)) := by
    rw [HW1.out]
    exact (World.rowIs_made w (.int .u8 0) 128 5).congr fun i _ => by simp
  have hB0 : Hid (Below w.heap.size w w1) := by rw [HW1.out]; unfold Hid; (repeat (first | exact Below.refl _ _ | assumption | refine Below.drew ?_ | refine below_many ?_ _ | refine Below.alloc ?_ (by first | (simp; done) | (simp; omega) | omega) _ | refine Below.setCell ?_ (by first | (simp; done) | (simp; omega) | omega) _))
  clear HW1
  go_loopw [4] (fun i wq => ∃ k : Nat, k ≤ 128 ∧ i = .int .i64 k ∧ Hid (wq.rowIs w.heap.size 5 128 (fun j => if j < k then bV b else bV 0)) ∧ Hid (Below w.heap.size w wq)) (fun i _ => 128 - (intOf i).toNat)
  case atStart => exact ⟨0, Nat.zero_le _, rfl, hR0, hB0⟩
  case round =>
    obtain ⟨k, hk, rfl, hR, hB⟩ := hrel
    by_cases hkl : k < 128
    · have hc := hR.out.cell hkl
      rw [if_neg (Nat.lt_irrefl k)] at hc
      have hf := hR.out.frozen k
      have hsz := hB.out.size
      have hlt := hR.out.lt
      have HR1 : Hid ((wr.setCell ⟨w.heap.size, k, none⟩ (bV b)).rowIs w.heap.size 5 128 (fun j => if j < k + 1 then bV b else bV 0)) := (hR.out.set k (bV b)).congr fun i _ => by
        by_cases h1 : i = k
        · simp [h1]
        · by_cases h2 : i < k
          · rw [if_neg h1, if_pos h2, if_pos (by omega)]
          · rw [if_neg h1, if_neg h2, if_neg (by omega)]
      have HB1 : Hid (Below w.heap.size w (wr.setCell ⟨w.heap.size, k, none⟩ (bV b))) := hB.out.setCell (Nat.le_refl _) _
      clear hR hB
      go_wp2_with fail
      go_roundw
      case rel => exact ⟨k + 1, by omega, by go_num, HR1, HB1⟩
      case measure => simp [intOf]; omega
    · obtain rfl : k = 128 := by omega
      have HR1 : Hid (wr.rowIs w.heap.size 5 128 (fun _ => bV b)) := hR.out.congr fun i hi => by rw [if_pos hi]
      clear hR
      go_wp2_with fail
      go_ret
      exact ⟨rfl, HR1.out, hB.out⟩
end Go.Proofs.YtehacchacgfjlaaDoor
