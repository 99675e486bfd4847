/- Package root: put, number; a root's bytes. -/
import Derived.Test.YtehacchacgfjlaaDoorRoot
namespace Go.Proofs.YtehacchacgfjlaaDoor
open Go.Maps
open Go Go.RowKit
set_option linter.unusedSimpArgs false
set_option linter.unusedVariables false

theorem wrap_byte (x : Int) : IntKind.u8.wrap x = x % 256 := IntKind.wrap_u8 x
theorem byte_eq (e : Int) (k : Nat) : e / 2 ^ (8 * k) % 256 = byteAt e k := by
  unfold byteAt
  rw [Int.pow_mul]; rfl
set_option maxHeartbeats 2000000 in
set_option maxRecDepth 100000 in
theorem rput_calls {w : World} {g off len cap n : Nat} {f : Nat → Value} (e : Int) (hR : w.rowIs g 5 n f) (hoff : off + 6 ≤ n) (hlen : 6 ≤ len) (hl2 : len ≤ 1000) :
    Calls Tryd.prog 75 #[.slice (some ⟨g, off, none⟩) len cap, .int .i64 e] w fun r w' => r = .returned (.tuple #[]) ∧ w'.rowIs g 5 n (fun j => if off ≤ j ∧ j < off + 6 then bV (byteAt e (j - off)) else f j) ∧ Keep (fun x => x = g) w w' := by
  have HR := Lib.hid hR
  clear hR
  go_enter Tryd.func75, Tryd.ntmps75
  go_wp2_with fail
  go_loopw [5] (fun i wq => ∃ k : Nat, k ≤ 6 ∧ i = .int .i64 k ∧ Hid (wq.rowIs g 5 n (fun j => if off ≤ j ∧ j < off + k then bV (byteAt e (j - off)) else f j)) ∧ Hid (Keep (fun x => x = g) w wq)) (fun i _ => 6 - (intOf i).toNat)
  case atStart => exact ⟨0, Nat.zero_le _, rfl, by unfold Hid; exact HR.out.congr fun i _ => by rw [if_neg (by omega)], Keep.refl _ _⟩
  case round =>
    obtain ⟨k, hk, rfl, hR, hK⟩ := hrel
    by_cases hkl : k < 6
    · have hc := hR.out.cell (show off + k < n by omega)
      rw [if_neg (by omega)] at hc
      have hf := hR.out.frozen (off + k)
      have hlt := hR.out.lt
      generalize f (off + k) = fv at hc
      have hw1 : IntKind.i64.wrap (8 * (k : Int)) = 8 * (k : Int) := IntWalk.i64_in _ (by omega)
      go_wp2_with fail
      go_roundw
      case rel =>
        refine ⟨k + 1, by omega, by go_num, ?_, hK.out.trans (keep_setCell wr ⟨g, off + k, none⟩ _)⟩
        refine (hR.out.set (off + k) _).congr fun i hi => ?_
        by_cases h1 : i = off + k
        · rw [if_pos h1, if_pos (by omega), h1, show off + k - off = k by omega, byte_eq]
        · rw [if_neg h1]
          by_cases h2 : off ≤ i ∧ i < off + k
          · rw [if_pos h2, if_pos (by omega)]
          · rw [if_neg h2, if_neg (by omega)]
      case measure => simp [intOf]; omega
    · obtain rfl : k = 6 := by omega
      go_wp2_with fail
      go_end0
      exact ⟨rfl, hR.out, hK.out⟩
/-- A row of bytes, as a slice of one's own. -/
theorem rowIs_own {w : World} {g base : Nat} {f : Nat → Value} {bs : List Int} (h : w.rowIs g 5 bs.length f) (hb : base ≤ g) (hf : ∀ i, i < bs.length → f i = bV (bs.getD i 0)) (hm : bs.length ≤ 1000000) : OwnB base w (.slice (some ⟨g, 0, none⟩) bs.length bs.length) bs := by
  obtain ⟨c, hc, hs, hcell⟩ := h
  refine ⟨by simp, .inr ⟨g, bs.length, c, rfl, hb, hc, Nat.le_refl _, by unfold maxLen; omega, by omega, ?_⟩⟩
  refine List.ext_getElem (by simp [hs]) fun i h1 h2 => ?_
  have hi : i < bs.length := by simpa using h2
  have h3 := hcell i hi
  rw [hf i hi] at h3
  have h4 : c.toList[i]? = some (bV (bs.getD i 0)) := by rw [Array.getElem?_toList]; exact h3
  have h5 : i < c.toList.length := by simp; omega
  rw [List.getElem?_eq_getElem h5] at h4
  simp only [List.getElem_take, List.getElem_map]
  rw [Option.some.inj h4]
  simp [List.getD, hi]
set_option maxHeartbeats 4000000 in
set_option maxRecDepth 100000 in
theorem bytes_ok {w : World} {e : Int} {v : Value} {l : List Int} (hv : RdK .i64 w v l) (h : rootOk e l) :
    Calls Tryd.prog 31 #[rootV e v] w fun r w' => ∃ u, r = .returned (.tuple #[u, .nilIface]) ∧ OwnB w.heap.size w' u (rootL e l) ∧ Below w.heap.size w w' := by
  obtain ⟨i0, hi0, hz0, hz1, hz2⟩ := info_parts infoB
  obtain ⟨a, c, rfl, hlc, hcm⟩ := hv.len
  have hb0 : Below w.heap.size w (w.alloc (.cells #[.int .i64 e, .slice a l.length c] 48)) := by (repeat (first | exact Below.refl _ _ | assumption | refine Below.drew ?_ | refine below_many ?_ _ | refine Below.alloc ?_ (by first | (simp; done) | (simp; omega) | omega) _ | refine Below.setCell ?_ (by first | (simp; done) | (simp; omega) | omega) _))
  have HV := Lib.hid (hv.below hb0)
  have HO := Lib.hid h
  have HV0 := Lib.hid hv
  have HB0 := Lib.hid hb0
  have hll : l.length ≤ 40 := h.2.2
  have x0 : (w.alloc (.cells #[.int .i64 e, .slice a l.length c] 48)).cell? ⟨w.heap.size, 0, none⟩ = some (.int .i64 e) := cell_new w _ _ 0
  have x1 : (w.alloc (.cells #[.int .i64 e, .slice a l.length c] 48)).cell? ⟨w.heap.size, 1, none⟩ = some (.slice a l.length c) := cell_new w _ _ 1
  obtain ⟨w0, hw0⟩ : ∃ w0, w0 = w.alloc (.cells #[.int .i64 e, .slice a l.length c] 48) := ⟨_, rfl⟩
  have hs0 : w.heap.size < w0.heap.size := by rw [hw0]; simp
  rw [← hw0] at HV HB0 x0 x1
  unfold maxLen at hcm
  clear hv h hb0
  go_enter Tryd.func31, Tryd.ntmps31
  go_wp2_with fail
  rw [← hw0]
  clear hw0
  refine (fits_ok HV.out HO.out).mono ?_
  rintro r w1 ⟨rfl, hb⟩
  have HV1 := Lib.hid (HV.out.below hb)
  have HB1 : Hid (Below w.heap.size w w1) := HB0.out.trans (hb.mono HB0.out.size)
  have y0 := (hb.cell (p := ⟨w.heap.size, 0, none⟩) hs0).trans x0
  have y1 := (hb.cell (p := ⟨w.heap.size, 1, none⟩) hs0).trans x1
  have hs1 : w.heap.size < w1.heap.size := Nat.lt_of_lt_of_le hs0 hb.size
  clear hb x0 x1 HV HB0
  go_wp2_with (at_make; refine wpList_make_row _ rfl _ _ 30 rfl 5 i0 (.int .u8 0) Tryd.underlying30 hi0 hz0 hz1 rfl _ _ 128 rfl rfl (by rw [hz2]; decide) (by decide) ?_; obtain ⟨w2, hw2⟩ : ∃ w2, w2 = w1.alloc (.cells (madeCells #[.int .u8 0] 128) 5) := ⟨_, rfl⟩; rw [← hw2]; have hb2 : Below w1.heap.size w1 w2 := (by rw [hw2]; (repeat (first | exact Below.refl _ _ | assumption | refine Below.drew ?_ | refine below_many ?_ _ | refine Below.alloc ?_ (by first | (simp; done) | (simp; omega) | omega) _ | refine Below.setCell ?_ (by first | (simp; done) | (simp; omega) | omega) _))); have z0 := (hb2.cell (p := ⟨w.heap.size, 0, none⟩) hs1).trans y0; have z1 := (hb2.cell (p := ⟨w.heap.size, 1, none⟩) hs1).trans y1; have HW2 := Lib.hid hw2; have HBB := Lib.hid hb2; clear hw2 y0 y1 hb2)
  have HR2 : Hid (w2.rowIs w1.heap.size 5 128 (fun _ => bV 0)) := by rw [HW2.out]; exact World.rowIs_made w1 (.int .u8 0) 128 5
  have hb2 := HBB.out
  have HV2 := Lib.hid (HV1.out.below hb2)
  have HB2 : Hid (Below w.heap.size w w2) := HB1.out.trans (hb2.mono HB1.out.size)
  have hs2 : w1.heap.size < w2.heap.size := HR2.out.lt
  clear hb2 HBB HV1 HB1 HW2
  go_wp2_with fail
  refine (rput_calls e HR2.out (off := 0) (len := 128) (cap := 128) (by decide) (by decide) (by decide)).mono ?_
  rintro r w3 ⟨rfl, hR3, hk3⟩
  have HR3 : Hid (w3.rowIs w1.heap.size 5 128 (fun j => bV (if j < 6 then byteAt e j else 0))) := hR3.congr fun j _ => by
    by_cases hj : j < 6
    · rw [if_pos (by omega), if_pos hj]; rfl
    · rw [if_neg (by omega), if_neg hj]
  have HK3 := Lib.hid hk3
  have hne : ¬ w.heap.size = w1.heap.size := by omega
  have hs3 : w.heap.size < w3.heap.size := by have := hk3.size; omega
  have y0 := (hk3.cell (x := ⟨w.heap.size, 0, none⟩) (by simp only; omega) hne).trans z0
  have y1 := (hk3.cell (x := ⟨w.heap.size, 1, none⟩) (by simp only; omega) hne).trans z1
  have hc6 := HR3.out.cell (show 6 < 128 by decide)
  rw [if_neg (by decide)] at hc6
  have hf6 := HR3.out.frozen 6
  clear hR3 hk3 z0 z1
  have HR4 : Hid ((w3.setCell ⟨w1.heap.size, 6, none⟩ (bV l.length)).rowIs w1.heap.size 5 128 (fun j => bV (if j < 6 then byteAt e j else if j = 6 then (l.length : Int) else 0))) := (HR3.out.set 6 _).congr fun j _ => by
    by_cases hj : j = 6
    · rw [if_pos hj, hj, if_neg (by decide), if_pos rfl]
    · rw [if_neg hj]
      by_cases h2 : j < 6
      · rw [if_pos h2, if_pos h2]
      · rw [if_neg h2, if_neg h2, if_neg hj]
  obtain ⟨w4, hw4⟩ : ∃ w4, w4 = w3.setCell ⟨w1.heap.size, 6, none⟩ (bV l.length) := ⟨_, rfl⟩
  have hk4 : Keep (fun x => x = w1.heap.size) w3 w4 := by rw [hw4]; exact keep_setCell w3 ⟨w1.heap.size, 6, none⟩ _
  rw [← hw4] at HR4
  have HW4 := Lib.hid hw4
  have HK4 : Hid (Keep (fun x => x = w1.heap.size) w2 w4) := HK3.out.trans hk4
  have v0 := (hk4.cell (x := ⟨w.heap.size, 0, none⟩) hs3 hne).trans y0
  have v1 := (hk4.cell (x := ⟨w.heap.size, 1, none⟩) hs3 hne).trans y1
  have HX4 : Hid (w4.cell? ⟨w.heap.size, 0, none⟩ = some (.int .i64 e)) := v0
  have HLw : Hid (∀ wq, Keep (fun x => x = w1.heap.size) w2 wq → wq.cell? ⟨w.heap.size, 0, none⟩ = some (.int .i64 e)) := fun wq hq => (hq.cell (x := ⟨w.heap.size, 0, none⟩) (by simp only; omega) hne).trans (((HK3.out.cell (x := ⟨w.heap.size, 0, none⟩) (by simp only; omega) hne).symm).trans y0)
  have hs4 : w4.heap.size = w3.heap.size := by rw [hw4]; simp [World.setCell]
  clear hw4 hk4
  have HX5 : Hid (∀ i, i < l.length → w2.cell? ⟨w.heap.size, i, none⟩ = w2.cell? ⟨w.heap.size, i, none⟩) := fun _ _ => rfl
  clear HX5
  go_wp2_with fail
  rw [← HW4.out]
  go_loopw [27] (fun i wq => ∃ k : Nat, k ≤ l.length ∧ i = .int .i64 k ∧ Hid (wq.rowIs w1.heap.size 5 128 (fun j => bV (if j < 6 then byteAt e j else if j = 6 then (l.length : Int) else if j < 7 + 2 * k then byteAt (l.getD ((j - 7) / 2) 0) ((j - 7) % 2) else 0))) ∧ Hid (Keep (fun x => x = w1.heap.size) w2 wq)) (fun i _ => l.length - (intOf i).toNat)
  case atStart =>
    refine ⟨0, Nat.zero_le _, rfl, ?_, HK4⟩
    refine HR4.out.congr fun j _ => ?_
    by_cases h1 : j < 6
    · rw [if_pos h1, if_pos h1]
    · rw [if_neg h1, if_neg h1]
      by_cases h2 : j = 6
      · rw [if_pos h2, if_pos h2]
      · rw [if_neg h2, if_neg h2, if_neg (by omega)]
  case round =>
    obtain ⟨k, hk, rfl, hR, hK⟩ := hrel
    by_cases hkl : k < l.length
    · obtain ⟨gq, oq, cq, hvq, q1, q2, q3, q4⟩ : ∃ gq oq cq, Value.slice a l.length c = .slice (some ⟨gq, oq, none⟩) l.length cq ∧ l.length ≤ cq ∧ cq ≤ maxLen ∧ gq < w.heap.size ∧ ∀ i, i < l.length → w.cell? ⟨gq, oq + i, none⟩ = some (.int .i64 (l.getD i 0)) := by
        rcases HV0.out with ⟨h0, _⟩ | h
        · rw [h0] at hkl; simp at hkl
        · exact h
      simp only [Value.slice.injEq, true_and] at hvq
      obtain ⟨rfl, rfl⟩ := hvq
      have d1 := (hK.out.cell (x := ⟨gq, oq + k, none⟩) (by have := HB2.out.size; simp only; omega) (by simp only; omega)).trans ((HB2.out.cell (p := ⟨gq, oq + k, none⟩) q3).trans (q4 k hkl))
      have hc1 := hR.out.cell (show 7 + 2 * k < 128 by omega)
      have hc2 := hR.out.cell (show 7 + 2 * k + 1 < 128 by omega)
      rw [if_neg (by omega), if_neg (by omega), if_neg (by omega)] at hc1 hc2
      have hf := hR.out.frozen
      have hlt := hR.out.lt
      have HN := Lib.hid (show l.getD k 0 = l.getD k 0 from rfl)
      generalize hnn : l.getD k 0 = nn at d1
      have HNN := Lib.hid hnn
      clear q4 q2 hnn
      go_wp2_with fail
      go_roundw
      case rel =>
        refine ⟨k + 1, by omega, by go_num, ?_, (hK.out.trans (keep_setCell wr ⟨w1.heap.size, 7 + 2 * k, none⟩ _)).trans (keep_setCell _ ⟨w1.heap.size, 7 + 2 * k + 1, none⟩ _)⟩
        refine ((hR.out.set (7 + 2 * k) _).set (7 + 2 * k + 1) _).congr fun j hj => ?_
        by_cases h1 : j = 7 + 2 * k + 1
        · rw [if_pos h1, if_neg (by omega), if_neg (by omega), if_pos (by omega), h1, show (7 + 2 * k + 1 - 7) / 2 = k by omega, show (7 + 2 * k + 1 - 7) % 2 = 1 by omega, HNN.out]
          rfl
        · rw [if_neg h1]
          by_cases h2 : j = 7 + 2 * k
          · rw [if_pos h2, if_neg (by omega), if_neg (by omega), if_pos (by omega), h2, show (7 + 2 * k - 7) / 2 = k by omega, show (7 + 2 * k - 7) % 2 = 0 by omega, HNN.out]
            simp [byteAt]
          · rw [if_neg h2]
            by_cases h3 : j < 6
            · rw [if_pos h3, if_pos h3]
            · rw [if_neg h3, if_neg h3]
              by_cases h4 : j = 6
              · rw [if_pos h4, if_pos h4]
              · rw [if_neg h4, if_neg h4]
                by_cases h5 : j < 7 + 2 * k
                · rw [if_pos h5, if_pos (by omega)]
                · rw [if_neg h5, if_neg (by omega)]
      case measure => simp [intOf]; omega
    · obtain rfl : k = l.length := by omega
      have v0 := HLw.out wr hK.out
      go_wp2_with fail
      have hs5 := hK.out.size
      go_region_held3 (fun wq => wq.cell? ⟨w.heap.size, 0, none⟩ = some (.int .i64 e))
        (first | exact v1' | exact v0)
        (first | (go_at_call 75; refine (rput_calls e hR.out.drew (off := 122) (len := 6) (cap := 6) (by decide) (by decide) (by decide)).mono ?_; rintro r w6 ⟨rfl, hR6, hk6⟩; have HK6 : Hid (Keep (fun x => x = w1.heap.size) w2 w6) := (hK.out.trans (Keep.of_below (show Below wr.heap.size wr wr.drew from (Below.refl _ _).drew))).trans hk6; have v1' := HLw.out w6 HK6.out; have HR6 := Lib.hid hR6; clear hR6 hk6))
      all_goals
        go_wp2_with fail
        go_ret2
        have hl := rootL_length e l
        have ho := rowIs_own (base := w.heap.size) (bs := rootL e l) (w := w6) (g := w1.heap.size) (by rw [hl]; exact HR6.out) (by omega) (fun i hi => by
          rw [hl] at hi
          rw [rootL_get e l i hi]
          unfold rbAt
          by_cases h1 : 122 ≤ i ∧ i < 128
          · rw [if_pos h1, if_neg (by omega), if_neg (by omega), if_neg (by omega), if_pos h1.1]
          · rw [if_neg h1]
            by_cases h2 : i < 6
            · rw [if_pos h2, if_pos h2]
            · rw [if_neg h2, if_neg h2]
              by_cases h3 : i = 6
              · rw [if_pos h3, if_pos h3]
              · rw [if_neg h3, if_neg h3]
                by_cases h4 : i < 7 + 2 * l.length
                · rw [if_pos h4, if_pos h4]
                · rw [if_neg h4, if_neg h4, if_neg (by omega)]) (by rw [hl]; decide)
        rw [hl] at ho
        exact ⟨_, rfl, ho, HB2.out.trans (HK6.out.below HB2.out.size (fun z hz e => by omega))⟩
end Go.Proofs.YtehacchacgfjlaaDoor
