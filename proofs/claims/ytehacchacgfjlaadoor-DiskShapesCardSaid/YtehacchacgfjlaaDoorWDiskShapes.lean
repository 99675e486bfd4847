/- The walk of pledgelaw5.DiskShapes: it returns true, and writes nothing that was there. -/
import Derived.Test.YtehacchacgfjlaaDoorDiskFirst
import Derived.Test.YtehacchacgfjlaaDoorSee
namespace Go.Proofs.YtehacchacgfjlaaDoor
open Go.Maps
open Go Go.RowKit
set_option linter.unusedSimpArgs false
set_option linter.unusedVariables false

set_option maxHeartbeats 4000000 in
set_option maxRecDepth 100000 in
theorem walk_DiskShapes {p : Nat → Addr} {w : World} (hE : Errs (List.range 21) w.heap.size p w) (i n : Int) (h1 : -9223372036854775808 ≤ i) (h2 : i ≤ 9223372036854775807) (h3 : -9223372036854775808 ≤ n) (h4 : n ≤ 9223372036854775807) :
    Calls Tryd.prog 3 #[.int .i64 i, .int .i64 n] w fun e w' => e = .returned (.bool true) ∧ Below w.heap.size w w' := by
  have HE := Lib.hid hE; clear hE
  obtain ⟨i0, hi0, hz0, hz1, hz2⟩ := info_parts infoB
  go_enter Tryd.func3, Tryd.ntmps3
  go_wp2_with fail
  refine (first5_calls _).mono ?_
  rintro e w1 ⟨rfl, hb1⟩
  have HB1 := Lib.hid hb1
  clear hb1
  go_wp2_with fail
  refine (number_calls n 260 (by decide) (by decide) _).mono ?_
  rintro e w2 ⟨rfl, rfl⟩
  have hn0 := Int.emod_nonneg n (show (260 : Int) ≠ 0 by decide)
  have hn1 := Int.emod_lt_of_pos n (show (0 : Int) < 260 by decide)
  obtain ⟨m, hm⟩ : ∃ m : Nat, n % 260 = (m : Int) := ⟨(n % 260).toNat, by omega⟩
  rw [hm] at hn0 hn1 ⊢
  clear hm h3 h4
  go_wp2_with fail
  refine (new_calls 5 (by decide) (by decide) w1).mono ?_
  rintro e w3 ⟨rfl, hD3, hb3⟩
  have hs1 := HB1.out.size
  have HD3 := Lib.hid hD3
  have HB3 : Hid (Below w.heap.size w w3) := HB1.out.trans (hb3.mono HB1.out.size)
  have hd3 := hD3.lt
  clear hD3 hb3
  go_wp2_with (at_make; refine wpList_make_row _ rfl _ _ 30 rfl 5 i0 (.int .u8 0) Tryd.underlying30 hi0 hz0 hz1 rfl _ _ m rfl rfl (by rw [hz2]; omega) (by omega) ?_; obtain ⟨w4, hw4⟩ : ∃ w4, w4 = w3.alloc (.cells (madeCells #[.int .u8 0] m) 5) := ⟨_, rfl⟩; rw [← hw4]; have HW4 := Lib.hid hw4; clear hw4)
  have hb4 : Below w3.heap.size w3 w4 := by rw [HW4.out]; (repeat (first | exact Below.refl _ _ | assumption | refine Below.drew ?_ | refine below_many ?_ _ | refine Below.alloc ?_ (by first | (simp; done) | (simp; omega) | omega) _ | refine Below.setCell ?_ (by first | (simp; done) | (simp; omega) | omega) _))
  have hr4 : RdB w4 (.slice (some ⟨w3.heap.size, 0, none⟩) m m) (List.replicate m 0) := by
    have hrow := World.rowIs_made w3 (.int .u8 0) m 5
    rw [← HW4.out] at hrow
    refine .inr ⟨w3.heap.size, 0, m, by rw [List.length_replicate], by rw [List.length_replicate]; exact Nat.le_refl _, by unfold maxLen; omega, hrow.lt, fun j hj => ?_⟩
    rw [List.length_replicate] at hj
    rw [Nat.zero_add, hrow.cell hj, List.getD, List.getElem?_replicate, if_pos hj]
    rfl
  have HD4 := Lib.hid (HD3.out.below hb4)
  have HR4 := Lib.hid hr4
  have HB4 : Hid (Below w.heap.size w w4) := HB3.out.trans (hb4.mono HB3.out.size)
  clear hb4 hr4 HD3 HW4
  have hw : w.heap.size ≤ w1.heap.size + 2 := by omega
  by_cases hin : 0 ≤ i ∧ i < 5
  · obtain ⟨hi0', hi5⟩ := hin
    by_cases hm : m = 128
    · subst hm
      go_wp2_with fail
      refine (write_ok HD4.out (by decide) rfl i hi0' hi5 (by decide) (by decide) HR4.out (by simp) (by intro g hg; simp only [Value.ownBlock, Option.some.injEq] at hg; omega)).mono ?_
      rintro e w5 ⟨rfl, v5, hD5, _, hk5⟩
      have HD5 := Lib.hid hD5
      have HB5 : Hid (Below w.heap.size w w5) := HB4.out.trans (hk5.below HB4.out.size (fun z hz e => by omega))
      have hne : ((128 : Nat) : Int) = 128 := rfl
      clear hD5 hk5 HD4
      go_wp2_with fail
      refine (pending_calls HD5.out).mono ?_
      rintro e w6 ⟨rfl, rfl⟩
      rw [mput_nil, List.length_singleton]
      go_wp2_with fail
      refine (diskCalls_calls HD5.out).mono ?_
      rintro e w6 ⟨rfl, rfl⟩
      go_wp2_with fail
      go_ret
      exact ⟨rfl, HB5.out⟩
    · have hm1 : ((m : Int) != 128) = true := by simp; omega
      go_wp2_with fail
      refine (write_shape (HE.out.below HB4.out) (by decide) HD4.out (by decide) rfl (by omega) i hi0' hi5 _ _ _ hm).mono ?_
      rintro e w5 ⟨rfl, hD5, hk5⟩
      have HD5 := Lib.hid hD5
      have HB5 : Hid (Below w.heap.size w w5) := HB4.out.trans (hk5.below HB4.out.size (fun z hz e => by omega))
      clear hD5 hk5 HD4
      go_wp2_with fail
      refine (is_ev (HE.out.below HB5.out) (k := 1) (by decide) _).mono ?_
      rintro e w6 ⟨rfl, hb6⟩
      have HD6 := Lib.hid (HD5.out.below hb6)
      have HB6 : Hid (Below w.heap.size w w6) := HB5.out.trans (hb6.mono HB5.out.size)
      clear hb6 HD5
      go_wp2_with fail
      refine (pending_calls HD6.out).mono ?_
      rintro e w7 ⟨rfl, rfl⟩
      rw [List.length_nil]
      go_wp2_with fail
      refine (diskCalls_calls HD6.out).mono ?_
      rintro e w7 ⟨rfl, rfl⟩
      go_wp2_with fail
      go_ret
      exact ⟨rfl, HB6.out⟩
  · by_cases h0 : i < 0
    · go_wp2_with fail
      refine (write_full (HE.out.below HB4.out) (by decide) HD4.out (by decide) rfl (by omega) i (by omega) _).mono ?_
      rintro e w5 ⟨rfl, hD5, hk5⟩
      have HD5 := Lib.hid hD5
      have HB5 : Hid (Below w.heap.size w w5) := HB4.out.trans (hk5.below HB4.out.size (fun z hz e => by omega))
      clear hD5 hk5 HD4
      go_wp2_with fail
      refine (is_ev (HE.out.below HB5.out) (k := 7) (by decide) _).mono ?_
      rintro e w6 ⟨rfl, hb6⟩
      have HD6 := Lib.hid (HD5.out.below hb6)
      have HB6 : Hid (Below w.heap.size w w6) := HB5.out.trans (hb6.mono HB5.out.size)
      clear hb6 HD5
      go_wp2_with fail
      refine (pending_calls HD6.out).mono ?_
      rintro e w7 ⟨rfl, rfl⟩
      rw [List.length_nil]
      go_wp2_with fail
      refine (diskCalls_calls HD6.out).mono ?_
      rintro e w7 ⟨rfl, rfl⟩
      go_wp2_with fail
      go_ret
      exact ⟨rfl, HB6.out⟩
    · have h5 : 5 ≤ i := by omega
      have hd5 : decide (i < 5) = false := decide_eq_false (by omega)
      clear hin
      go_wp2_with fail
      refine (write_full (HE.out.below HB4.out) (by decide) HD4.out (by decide) rfl (by omega) i (by omega) _).mono ?_
      rintro e w5 ⟨rfl, hD5, hk5⟩
      have HD5 := Lib.hid hD5
      have HB5 : Hid (Below w.heap.size w w5) := HB4.out.trans (hk5.below HB4.out.size (fun z hz e => by omega))
      clear hD5 hk5 HD4
      go_wp2_with fail
      refine (is_ev (HE.out.below HB5.out) (k := 7) (by decide) _).mono ?_
      rintro e w6 ⟨rfl, hb6⟩
      have HD6 := Lib.hid (HD5.out.below hb6)
      have HB6 : Hid (Below w.heap.size w w6) := HB5.out.trans (hb6.mono HB5.out.size)
      clear hb6 HD5
      go_wp2_with fail
      refine (pending_calls HD6.out).mono ?_
      rintro e w7 ⟨rfl, rfl⟩
      rw [List.length_nil]
      go_wp2_with fail
      refine (diskCalls_calls HD6.out).mono ?_
      rintro e w7 ⟨rfl, rfl⟩
      go_wp2_with fail
      go_ret
      exact ⟨rfl, HB6.out⟩
end Go.Proofs.YtehacchacgfjlaaDoor
