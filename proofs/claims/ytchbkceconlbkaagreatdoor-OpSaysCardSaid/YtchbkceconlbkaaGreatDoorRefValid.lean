/- pledgeref26.Valid: the error's number. (Written by gen_refvalid.py.) -/
import Derived.Test.YtchbkceconlbkaaGreatDoorRefOp1
import Derived.Test.YtchbkceconlbkaaGreatDoorParseLaw
namespace Go.Proofs.YtchbkceconlbkaaGreatDoor
open Go Go.RowKit
set_option linter.unusedSimpArgs false
set_option linter.unusedVariables false

theorem contains_anyR : ∀ k, k < 17 → ∀ j, j < 6 → Lib.contains (usesB k).data.toList [letterAt j] = (usesB k).data.toList.any (· == letterAt j) := by decide +kernel
set_option maxHeartbeats 16000000 in
set_option maxRecDepth 100000 in
theorem refValid_calls (id k a b c d n m : Int) (w : World) :
    Calls Tryz.prog 5 #[opV id k a b c d n m] w fun e w' => e = .returned (.int .i64 (codeV (validC id k a b c d n m) : Nat)) ∧ Below w.heap.size w w' := by
  obtain ⟨v, hv⟩ : ∃ v : Int, v = (codeV (validC id k a b c d n m) : Nat) := ⟨_, rfl⟩
  rw [← hv]
  have HV := Lib.hid hv
  clear hv
  have hb0 : Below w.heap.size w (w.alloc (Obj.cells #[.int .i64 id, .int .i64 k, .int .i64 a, .int .i64 b, .int .i64 c, .int .i64 d, .int .i64 n, .int .i64 m] 23)) := (Below.refl _ _).alloc (Nat.le_refl _) _
  have hO := opAt_new w id k a b c d n m 23
  have HB := Lib.hid hb0
  have HO := Lib.hid hO
  have hc0 := hO.c0
  have hc1 := hO.c1
  clear hb0 hO
  by_cases h1 : id < 1
  · obtain rfl : v = 103 := by rw [HV.out]; unfold validC; rw [if_pos (by omega)]; rfl
    have d1 : decide (id < 1) = true := decide_eq_true h1
    go_enter Tryz.func5, Tryz.ntmps5
    go_upto_region 1 with fail
    generalize w.alloc (Obj.cells #[.int .i64 id, .int .i64 k, .int .i64 a, .int .i64 b, .int .i64 c, .int .i64 d, .int .i64 n, .int .i64 m] 23) = W1 at *
    go_wp2_with fail
    go_ret
    exact ⟨rfl, HB.out⟩
  by_cases h2 : 1099511627776 < id
  · obtain rfl : v = 103 := by rw [HV.out]; unfold validC; rw [if_pos (by omega)]; rfl
    have d1 : decide (id < 1) = false := decide_eq_false h1
    have d2 : decide (id > 1099511627776) = true := decide_eq_true h2
    go_enter Tryz.func5, Tryz.ntmps5
    go_upto_region 1 with fail
    generalize w.alloc (Obj.cells #[.int .i64 id, .int .i64 k, .int .i64 a, .int .i64 b, .int .i64 c, .int .i64 d, .int .i64 n, .int .i64 m] 23) = W1 at *
    go_wp2_with fail
    go_ret
    exact ⟨rfl, HB.out⟩
  have d1 : decide (id < 1) = false := decide_eq_false h1
  have d2 : decide (id > 1099511627776) = false := decide_eq_false h2
  by_cases h3 : isK k = false
  · obtain rfl : v = 111 := by rw [HV.out]; unfold validC; rw [if_neg (by omega), if_pos h3]; rfl
    have hk : k < 1 ∨ 16 < k := by
      unfold isK at h3
      rw [Bool.and_eq_false_iff, decide_eq_false_iff_not, decide_eq_false_iff_not] at h3
      omega
    by_cases h4 : k < 1
    · have d3 : decide (k < 1) = true := decide_eq_true h4
      clear hk h3
      go_enter Tryz.func5, Tryz.ntmps5
      go_upto_region 1 with fail
      generalize w.alloc (Obj.cells #[.int .i64 id, .int .i64 k, .int .i64 a, .int .i64 b, .int .i64 c, .int .i64 d, .int .i64 n, .int .i64 m] 23) = W1 at *
      go_wp2_with fail
      go_ret
      exact ⟨rfl, HB.out⟩
    · have d3 : decide (k < 1) = false := decide_eq_false h4
      have d4 : decide (k > 16) = true := decide_eq_true (by omega)
      clear hk h3
      go_enter Tryz.func5, Tryz.ntmps5
      go_upto_region 1 with fail
      generalize w.alloc (Obj.cells #[.int .i64 id, .int .i64 k, .int .i64 a, .int .i64 b, .int .i64 c, .int .i64 d, .int .i64 n, .int .i64 m] 23) = W1 at *
      go_wp2_with fail
      go_ret
      exact ⟨rfl, HB.out⟩
  have h3' : isK k = true := by simpa using h3
  have hk : 1 ≤ k ∧ k ≤ 16 := by simpa [isK] using h3'
  have HVbad : Hid (∀ j, j < 6 → fieldBad k j (fieldAt a b c d n m j) = true → v = 103) := fun j hj hb => by rw [HV.out, validC_bad (by omega) (by omega) h3' hj hb]; rfl
  have HVok : Hid ((∀ j, j < 6 → fieldBad k j (fieldAt a b c d n m j) = false) → v = 0) := fun hf => by rw [HV.out, validC_ok (by omega) (by omega) h3' hf]; rfl
  have hus : usesK k = usesB k.toNat := by unfold usesK; rw [if_pos h3']
  have HU := Lib.hid (fun w' => refUses_calls k w')
  rw [hus] at HU
  have HHas := Lib.hid (fun (j : Nat) (hj : j < 6) (w' : World) => refHas_calls (usesB k.toNat) (letterAt j) (by have := uses_size k.toNat; omega) w')
  have HQ : Hid (∀ j, j < 6 → (usesB k.toNat).data.toList.any (· == letterAt j) = usesHas k j) := fun j hj => by unfold usesHas; rw [contains_anyR k.toNat (by omega) j hj]
  generalize usesB k.toNat = u at HU HHas HQ
  have d3 : decide (k < 1) = false := decide_eq_false (by omega)
  have d4 : decide (k > 16) = false := decide_eq_false (by omega)
  clear hus h3 h3' HV h1 h2
  go_enter Tryz.func5, Tryz.ntmps5
  go_upto_region 1 with fail
  generalize w.alloc (Obj.cells #[.int .i64 id, .int .i64 k, .int .i64 a, .int .i64 b, .int .i64 c, .int .i64 d, .int .i64 n, .int .i64 m] 23) = W1 at *
  go_wp2_with fail
  refine (HU.out _).mono ?_
  rintro e _ ⟨rfl, rfl⟩
  clear hc0 hc1 d1 d2 d3 d4 HU
  go_wp2_with fail
  go_loopw [5] (fun i wr => ∃ (j : Nat) (z : Int), z = j ∧ j ≤ 6 ∧ i = .int .i64 z ∧ (∀ t, t < j → fieldBad k t (fieldAt a b c d n m t) = false) ∧ Hid (OpAt wr w.heap.size id k a b c d n m) ∧ Hid (Below w.heap.size w wr)) (fun i _ => 6 - (intOf i).toNat)
  case atStart => exact ⟨0, 0, rfl, by omega, rfl, fun t ht => absurd ht (Nat.not_lt_zero _), HO, HB⟩
  case round =>
    obtain ⟨j, z, hz, hj, rfl, hok, hO, hB⟩ := hrel
    have HOK := Lib.hid hok
    clear hok HO HB
    by_cases hj6 : j < 6
    · have hfb := Lib.hid (HVbad.out j hj6)
      have HNx : Hid (fieldBad k j (fieldAt a b c d n m j) = false → ∀ t, t < j + 1 → fieldBad k t (fieldAt a b c d n m t) = false) := fun h => upto_succ HOK.out h
      have HFd := Lib.hid (fun w' => refField_calls id k a b c d n m hj6 w')
      have HHj := Lib.hid (HHas.out j hj6)
      rw [HQ.out j hj6] at HHj
      clear HVok HVbad HHas HQ
      have hlt := hO.out.lt
      have x0 := hO.out.c0; have x1 := hO.out.c1; have x2 := hO.out.c2; have x3 := hO.out.c3; have x4 := hO.out.c4; have x5 := hO.out.c5; have x6 := hO.out.c6; have x7 := hO.out.c7
      have hjc : j = 0 ∨ j = 1 ∨ j = 2 ∨ j = 3 ∨ j = 4 ∨ j = 5 := by omega
      rcases hjc with rfl | rfl | rfl | rfl | rfl | rfl
      · obtain rfl : z = 0 := hz
        obtain ⟨x, hxe⟩ : ∃ x, x = fieldAt a b c d n m 0 := ⟨_, rfl⟩
        rw [← hxe] at hfb HNx HFd
        rw [show ((letterAt 0).toNat : Int) = 65 from rfl] at HFd HHj
        clear hxe
        go_upto_region 10 with fail
        go_region_held3 (fun w1 => w1.cell? ⟨w.heap.size, 0, none⟩ = some (.int .i64 id) ∧ w1.cell? ⟨w.heap.size, 1, none⟩ = some (.int .i64 k) ∧ w1.cell? ⟨w.heap.size, 2, none⟩ = some (.int .i64 a) ∧ w1.cell? ⟨w.heap.size, 3, none⟩ = some (.int .i64 b) ∧ w1.cell? ⟨w.heap.size, 4, none⟩ = some (.int .i64 c) ∧ w1.cell? ⟨w.heap.size, 5, none⟩ = some (.int .i64 d) ∧ w1.cell? ⟨w.heap.size, 6, none⟩ = some (.int .i64 n) ∧ w1.cell? ⟨w.heap.size, 7, none⟩ = some (.int .i64 m))
          (first | exact ⟨x0, x1, x2, x3, x4, x5, x6, x7⟩ | exact ⟨HOy.out.c0, HOy.out.c1, HOy.out.c2, HOy.out.c3, HOy.out.c4, HOy.out.c5, HOy.out.c6, HOy.out.c7⟩)
          (first | (go_at_call 22; refine (HFd.out _).mono ?_; rintro e wy ⟨rfl, hb⟩; have hb := (Below.refl wr.heap.size wr).drew.trans hb; have HOy := Lib.hid (hO.out.below hb); have HBy := Lib.hid (bbase hB.out hb)))
        clear x0 x1 x2 x3 x4 x5 x6 x7 hO hB hb HFd hlt
        by_cases c1 : x < 0
        · have hd3 : decide (x < 0) = true := decide_eq_true c1
          have hv := hfb.out (by simp [fieldBad, c1])
          subst hv
          clear hfb HNx
          go_wp2_with fail
          go_ret
          exact ⟨rfl, HBy.out⟩
        have hd3 : decide (x < 0) = false := decide_eq_false c1
        by_cases c2 : 1048576 < x
        · have hd4 : decide (1048576 < x) = true := decide_eq_true c2
          have hv := hfb.out (by simp [fieldBad, mostI, c2])
          subst hv
          clear hfb HNx
          go_wp2_with fail
          go_ret
          exact ⟨rfl, HBy.out⟩
        have hd4 : decide (1048576 < x) = false := decide_eq_false c2
        by_cases c3 : x = 0
        · have hok := HNx.out (by simp [fieldBad, mostI, c3])
          have HOK2 := Lib.hid hok
          subst c3
          clear hfb HNx hok
          go_wp2_with fail
          go_roundw
          case rel => exact ⟨0 + 1, 1, rfl, by omega, by go_num, HOK2.out, HOy, HBy⟩
          case measure => simp [intOf]
        have hd5 : (x != 0) = true := by simpa using c3
        have hbad : fieldBad k 0 x = !usesHas k 0 := by simp [fieldBad, mostI, c1, c2, c3]
        rw [hbad] at hfb HNx
        clear hbad
        generalize usesHas k 0 = q at HHj hfb HNx
        have hwr : IntKind.i64.wrap 1 = 1 := by rfl
        go_wp2_with fail
        refine (HHj.out _).mono ?_
        rintro e _ ⟨rfl, rfl⟩
        cases q with
        | false =>
          have hv := hfb.out rfl
          subst hv
          clear hfb HNx
          go_wp2_with fail
          go_ret
          exact ⟨rfl, HBy.out⟩
        | true =>
          have HOK2 := Lib.hid (HNx.out rfl)
          clear hfb HNx
          go_wp2_with fail
          go_roundw
          case rel => exact ⟨0 + 1, 1, rfl, by omega, by go_num, HOK2.out, HOy, HBy⟩
          case measure => simp [intOf]
      · obtain rfl : z = 1 := hz
        obtain ⟨x, hxe⟩ : ∃ x, x = fieldAt a b c d n m 1 := ⟨_, rfl⟩
        rw [← hxe] at hfb HNx HFd
        rw [show ((letterAt 1).toNat : Int) = 66 from rfl] at HFd HHj
        clear hxe
        go_upto_region 10 with fail
        go_region_held3 (fun w1 => w1.cell? ⟨w.heap.size, 0, none⟩ = some (.int .i64 id) ∧ w1.cell? ⟨w.heap.size, 1, none⟩ = some (.int .i64 k) ∧ w1.cell? ⟨w.heap.size, 2, none⟩ = some (.int .i64 a) ∧ w1.cell? ⟨w.heap.size, 3, none⟩ = some (.int .i64 b) ∧ w1.cell? ⟨w.heap.size, 4, none⟩ = some (.int .i64 c) ∧ w1.cell? ⟨w.heap.size, 5, none⟩ = some (.int .i64 d) ∧ w1.cell? ⟨w.heap.size, 6, none⟩ = some (.int .i64 n) ∧ w1.cell? ⟨w.heap.size, 7, none⟩ = some (.int .i64 m))
          (first | exact ⟨x0, x1, x2, x3, x4, x5, x6, x7⟩ | exact ⟨HOy.out.c0, HOy.out.c1, HOy.out.c2, HOy.out.c3, HOy.out.c4, HOy.out.c5, HOy.out.c6, HOy.out.c7⟩)
          (first | (go_at_call 22; refine (HFd.out _).mono ?_; rintro e wy ⟨rfl, hb⟩; have hb := (Below.refl wr.heap.size wr).drew.trans hb; have HOy := Lib.hid (hO.out.below hb); have HBy := Lib.hid (bbase hB.out hb)))
        clear x0 x1 x2 x3 x4 x5 x6 x7 hO hB hb HFd hlt
        by_cases c1 : x < 0
        · have hd3 : decide (x < 0) = true := decide_eq_true c1
          have hv := hfb.out (by simp [fieldBad, c1])
          subst hv
          clear hfb HNx
          go_wp2_with fail
          go_ret
          exact ⟨rfl, HBy.out⟩
        have hd3 : decide (x < 0) = false := decide_eq_false c1
        by_cases c2 : 1048576 < x
        · have hd4 : decide (1048576 < x) = true := decide_eq_true c2
          have hv := hfb.out (by simp [fieldBad, mostI, c2])
          subst hv
          clear hfb HNx
          go_wp2_with fail
          go_ret
          exact ⟨rfl, HBy.out⟩
        have hd4 : decide (1048576 < x) = false := decide_eq_false c2
        by_cases c3 : x = 0
        · have hok := HNx.out (by simp [fieldBad, mostI, c3])
          have HOK2 := Lib.hid hok
          subst c3
          clear hfb HNx hok
          go_wp2_with fail
          go_roundw
          case rel => exact ⟨1 + 1, 2, rfl, by omega, by go_num, HOK2.out, HOy, HBy⟩
          case measure => simp [intOf]
        have hd5 : (x != 0) = true := by simpa using c3
        have hbad : fieldBad k 1 x = !usesHas k 1 := by simp [fieldBad, mostI, c1, c2, c3]
        rw [hbad] at hfb HNx
        clear hbad
        generalize usesHas k 1 = q at HHj hfb HNx
        have hwr : IntKind.i64.wrap 2 = 2 := by rfl
        go_wp2_with fail
        refine (HHj.out _).mono ?_
        rintro e _ ⟨rfl, rfl⟩
        cases q with
        | false =>
          have hv := hfb.out rfl
          subst hv
          clear hfb HNx
          go_wp2_with fail
          go_ret
          exact ⟨rfl, HBy.out⟩
        | true =>
          have HOK2 := Lib.hid (HNx.out rfl)
          clear hfb HNx
          go_wp2_with fail
          go_roundw
          case rel => exact ⟨1 + 1, 2, rfl, by omega, by go_num, HOK2.out, HOy, HBy⟩
          case measure => simp [intOf]
      · obtain rfl : z = 2 := hz
        obtain ⟨x, hxe⟩ : ∃ x, x = fieldAt a b c d n m 2 := ⟨_, rfl⟩
        rw [← hxe] at hfb HNx HFd
        rw [show ((letterAt 2).toNat : Int) = 67 from rfl] at HFd HHj
        clear hxe
        go_upto_region 10 with fail
        go_region_held3 (fun w1 => w1.cell? ⟨w.heap.size, 0, none⟩ = some (.int .i64 id) ∧ w1.cell? ⟨w.heap.size, 1, none⟩ = some (.int .i64 k) ∧ w1.cell? ⟨w.heap.size, 2, none⟩ = some (.int .i64 a) ∧ w1.cell? ⟨w.heap.size, 3, none⟩ = some (.int .i64 b) ∧ w1.cell? ⟨w.heap.size, 4, none⟩ = some (.int .i64 c) ∧ w1.cell? ⟨w.heap.size, 5, none⟩ = some (.int .i64 d) ∧ w1.cell? ⟨w.heap.size, 6, none⟩ = some (.int .i64 n) ∧ w1.cell? ⟨w.heap.size, 7, none⟩ = some (.int .i64 m))
          (first | exact ⟨x0, x1, x2, x3, x4, x5, x6, x7⟩ | exact ⟨HOy.out.c0, HOy.out.c1, HOy.out.c2, HOy.out.c3, HOy.out.c4, HOy.out.c5, HOy.out.c6, HOy.out.c7⟩)
          (first | (go_at_call 22; refine (HFd.out _).mono ?_; rintro e wy ⟨rfl, hb⟩; have hb := (Below.refl wr.heap.size wr).drew.trans hb; have HOy := Lib.hid (hO.out.below hb); have HBy := Lib.hid (bbase hB.out hb)))
        clear x0 x1 x2 x3 x4 x5 x6 x7 hO hB hb HFd hlt
        by_cases c1 : x < 0
        · have hd3 : decide (x < 0) = true := decide_eq_true c1
          have hv := hfb.out (by simp [fieldBad, c1])
          subst hv
          clear hfb HNx
          go_wp2_with fail
          go_ret
          exact ⟨rfl, HBy.out⟩
        have hd3 : decide (x < 0) = false := decide_eq_false c1
        by_cases c2 : 1048576 < x
        · have hd4 : decide (1048576 < x) = true := decide_eq_true c2
          have hv := hfb.out (by simp [fieldBad, mostI, c2])
          subst hv
          clear hfb HNx
          go_wp2_with fail
          go_ret
          exact ⟨rfl, HBy.out⟩
        have hd4 : decide (1048576 < x) = false := decide_eq_false c2
        by_cases c3 : x = 0
        · have hok := HNx.out (by simp [fieldBad, mostI, c3])
          have HOK2 := Lib.hid hok
          subst c3
          clear hfb HNx hok
          go_wp2_with fail
          go_roundw
          case rel => exact ⟨2 + 1, 3, rfl, by omega, by go_num, HOK2.out, HOy, HBy⟩
          case measure => simp [intOf]
        have hd5 : (x != 0) = true := by simpa using c3
        have hbad : fieldBad k 2 x = !usesHas k 2 := by simp [fieldBad, mostI, c1, c2, c3]
        rw [hbad] at hfb HNx
        clear hbad
        generalize usesHas k 2 = q at HHj hfb HNx
        have hwr : IntKind.i64.wrap 3 = 3 := by rfl
        go_wp2_with fail
        refine (HHj.out _).mono ?_
        rintro e _ ⟨rfl, rfl⟩
        cases q with
        | false =>
          have hv := hfb.out rfl
          subst hv
          clear hfb HNx
          go_wp2_with fail
          go_ret
          exact ⟨rfl, HBy.out⟩
        | true =>
          have HOK2 := Lib.hid (HNx.out rfl)
          clear hfb HNx
          go_wp2_with fail
          go_roundw
          case rel => exact ⟨2 + 1, 3, rfl, by omega, by go_num, HOK2.out, HOy, HBy⟩
          case measure => simp [intOf]
      · obtain rfl : z = 3 := hz
        obtain ⟨x, hxe⟩ : ∃ x, x = fieldAt a b c d n m 3 := ⟨_, rfl⟩
        rw [← hxe] at hfb HNx HFd
        rw [show ((letterAt 3).toNat : Int) = 68 from rfl] at HFd HHj
        clear hxe
        go_upto_region 10 with fail
        go_region_held3 (fun w1 => w1.cell? ⟨w.heap.size, 0, none⟩ = some (.int .i64 id) ∧ w1.cell? ⟨w.heap.size, 1, none⟩ = some (.int .i64 k) ∧ w1.cell? ⟨w.heap.size, 2, none⟩ = some (.int .i64 a) ∧ w1.cell? ⟨w.heap.size, 3, none⟩ = some (.int .i64 b) ∧ w1.cell? ⟨w.heap.size, 4, none⟩ = some (.int .i64 c) ∧ w1.cell? ⟨w.heap.size, 5, none⟩ = some (.int .i64 d) ∧ w1.cell? ⟨w.heap.size, 6, none⟩ = some (.int .i64 n) ∧ w1.cell? ⟨w.heap.size, 7, none⟩ = some (.int .i64 m))
          (first | exact ⟨x0, x1, x2, x3, x4, x5, x6, x7⟩ | exact ⟨HOy.out.c0, HOy.out.c1, HOy.out.c2, HOy.out.c3, HOy.out.c4, HOy.out.c5, HOy.out.c6, HOy.out.c7⟩)
          (first | (go_at_call 22; refine (HFd.out _).mono ?_; rintro e wy ⟨rfl, hb⟩; have hb := (Below.refl wr.heap.size wr).drew.trans hb; have HOy := Lib.hid (hO.out.below hb); have HBy := Lib.hid (bbase hB.out hb)))
        clear x0 x1 x2 x3 x4 x5 x6 x7 hO hB hb HFd hlt
        by_cases c1 : x < 0
        · have hd3 : decide (x < 0) = true := decide_eq_true c1
          have hv := hfb.out (by simp [fieldBad, c1])
          subst hv
          clear hfb HNx
          go_wp2_with fail
          go_ret
          exact ⟨rfl, HBy.out⟩
        have hd3 : decide (x < 0) = false := decide_eq_false c1
        by_cases c2 : 1048576 < x
        · have hd4 : decide (1048576 < x) = true := decide_eq_true c2
          have hv := hfb.out (by simp [fieldBad, mostI, c2])
          subst hv
          clear hfb HNx
          go_wp2_with fail
          go_ret
          exact ⟨rfl, HBy.out⟩
        have hd4 : decide (1048576 < x) = false := decide_eq_false c2
        by_cases c3 : x = 0
        · have hok := HNx.out (by simp [fieldBad, mostI, c3])
          have HOK2 := Lib.hid hok
          subst c3
          clear hfb HNx hok
          go_wp2_with fail
          go_roundw
          case rel => exact ⟨3 + 1, 4, rfl, by omega, by go_num, HOK2.out, HOy, HBy⟩
          case measure => simp [intOf]
        have hd5 : (x != 0) = true := by simpa using c3
        have hbad : fieldBad k 3 x = !usesHas k 3 := by simp [fieldBad, mostI, c1, c2, c3]
        rw [hbad] at hfb HNx
        clear hbad
        generalize usesHas k 3 = q at HHj hfb HNx
        have hwr : IntKind.i64.wrap 4 = 4 := by rfl
        go_wp2_with fail
        refine (HHj.out _).mono ?_
        rintro e _ ⟨rfl, rfl⟩
        cases q with
        | false =>
          have hv := hfb.out rfl
          subst hv
          clear hfb HNx
          go_wp2_with fail
          go_ret
          exact ⟨rfl, HBy.out⟩
        | true =>
          have HOK2 := Lib.hid (HNx.out rfl)
          clear hfb HNx
          go_wp2_with fail
          go_roundw
          case rel => exact ⟨3 + 1, 4, rfl, by omega, by go_num, HOK2.out, HOy, HBy⟩
          case measure => simp [intOf]
      · obtain rfl : z = 4 := hz
        obtain ⟨x, hxe⟩ : ∃ x, x = fieldAt a b c d n m 4 := ⟨_, rfl⟩
        rw [← hxe] at hfb HNx HFd
        rw [show ((letterAt 4).toNat : Int) = 78 from rfl] at HFd HHj
        clear hxe
        go_upto_region 10 with fail
        go_region_held3 (fun w1 => w1.cell? ⟨w.heap.size, 0, none⟩ = some (.int .i64 id) ∧ w1.cell? ⟨w.heap.size, 1, none⟩ = some (.int .i64 k) ∧ w1.cell? ⟨w.heap.size, 2, none⟩ = some (.int .i64 a) ∧ w1.cell? ⟨w.heap.size, 3, none⟩ = some (.int .i64 b) ∧ w1.cell? ⟨w.heap.size, 4, none⟩ = some (.int .i64 c) ∧ w1.cell? ⟨w.heap.size, 5, none⟩ = some (.int .i64 d) ∧ w1.cell? ⟨w.heap.size, 6, none⟩ = some (.int .i64 n) ∧ w1.cell? ⟨w.heap.size, 7, none⟩ = some (.int .i64 m))
          (first | exact ⟨x0, x1, x2, x3, x4, x5, x6, x7⟩ | exact ⟨HOy.out.c0, HOy.out.c1, HOy.out.c2, HOy.out.c3, HOy.out.c4, HOy.out.c5, HOy.out.c6, HOy.out.c7⟩)
          (first | (go_at_call 22; refine (HFd.out _).mono ?_; rintro e wy ⟨rfl, hb⟩; have hb := (Below.refl wr.heap.size wr).drew.trans hb; have HOy := Lib.hid (hO.out.below hb); have HBy := Lib.hid (bbase hB.out hb)))
        clear x0 x1 x2 x3 x4 x5 x6 x7 hO hB hb HFd hlt
        by_cases c1 : x < 0
        · have hd3 : decide (x < 0) = true := decide_eq_true c1
          have hv := hfb.out (by simp [fieldBad, c1])
          subst hv
          clear hfb HNx
          go_wp2_with fail
          go_ret
          exact ⟨rfl, HBy.out⟩
        have hd3 : decide (x < 0) = false := decide_eq_false c1
        by_cases c2 : 1000000000000000 < x
        · have hd4 : decide (1000000000000000 < x) = true := decide_eq_true c2
          have hv := hfb.out (by simp [fieldBad, mostI, c2])
          subst hv
          clear hfb HNx
          go_wp2_with fail
          go_ret
          exact ⟨rfl, HBy.out⟩
        have hd4 : decide (1000000000000000 < x) = false := decide_eq_false c2
        by_cases c3 : x = 0
        · have hok := HNx.out (by simp [fieldBad, mostI, c3])
          have HOK2 := Lib.hid hok
          subst c3
          clear hfb HNx hok
          go_wp2_with fail
          go_roundw
          case rel => exact ⟨4 + 1, 5, rfl, by omega, by go_num, HOK2.out, HOy, HBy⟩
          case measure => simp [intOf]
        have hd5 : (x != 0) = true := by simpa using c3
        have hbad : fieldBad k 4 x = !usesHas k 4 := by simp [fieldBad, mostI, c1, c2, c3]
        rw [hbad] at hfb HNx
        clear hbad
        generalize usesHas k 4 = q at HHj hfb HNx
        have hwr : IntKind.i64.wrap 5 = 5 := by rfl
        go_wp2_with fail
        refine (HHj.out _).mono ?_
        rintro e _ ⟨rfl, rfl⟩
        cases q with
        | false =>
          have hv := hfb.out rfl
          subst hv
          clear hfb HNx
          go_wp2_with fail
          go_ret
          exact ⟨rfl, HBy.out⟩
        | true =>
          have HOK2 := Lib.hid (HNx.out rfl)
          clear hfb HNx
          go_wp2_with fail
          go_roundw
          case rel => exact ⟨4 + 1, 5, rfl, by omega, by go_num, HOK2.out, HOy, HBy⟩
          case measure => simp [intOf]
      · obtain rfl : z = 5 := hz
        obtain ⟨x, hxe⟩ : ∃ x, x = fieldAt a b c d n m 5 := ⟨_, rfl⟩
        rw [← hxe] at hfb HNx HFd
        rw [show ((letterAt 5).toNat : Int) = 77 from rfl] at HFd HHj
        clear hxe
        go_upto_region 10 with fail
        go_region_held3 (fun w1 => w1.cell? ⟨w.heap.size, 0, none⟩ = some (.int .i64 id) ∧ w1.cell? ⟨w.heap.size, 1, none⟩ = some (.int .i64 k) ∧ w1.cell? ⟨w.heap.size, 2, none⟩ = some (.int .i64 a) ∧ w1.cell? ⟨w.heap.size, 3, none⟩ = some (.int .i64 b) ∧ w1.cell? ⟨w.heap.size, 4, none⟩ = some (.int .i64 c) ∧ w1.cell? ⟨w.heap.size, 5, none⟩ = some (.int .i64 d) ∧ w1.cell? ⟨w.heap.size, 6, none⟩ = some (.int .i64 n) ∧ w1.cell? ⟨w.heap.size, 7, none⟩ = some (.int .i64 m))
          (first | exact ⟨x0, x1, x2, x3, x4, x5, x6, x7⟩ | exact ⟨HOy.out.c0, HOy.out.c1, HOy.out.c2, HOy.out.c3, HOy.out.c4, HOy.out.c5, HOy.out.c6, HOy.out.c7⟩)
          (first | (go_at_call 22; refine (HFd.out _).mono ?_; rintro e wy ⟨rfl, hb⟩; have hb := (Below.refl wr.heap.size wr).drew.trans hb; have HOy := Lib.hid (hO.out.below hb); have HBy := Lib.hid (bbase hB.out hb)))
        clear x0 x1 x2 x3 x4 x5 x6 x7 hO hB hb HFd hlt
        by_cases c1 : x < 0
        · have hd3 : decide (x < 0) = true := decide_eq_true c1
          have hv := hfb.out (by simp [fieldBad, c1])
          subst hv
          clear hfb HNx
          go_wp2_with fail
          go_ret
          exact ⟨rfl, HBy.out⟩
        have hd3 : decide (x < 0) = false := decide_eq_false c1
        by_cases c2 : 1000000000000000 < x
        · have hd4 : decide (1000000000000000 < x) = true := decide_eq_true c2
          have hv := hfb.out (by simp [fieldBad, mostI, c2])
          subst hv
          clear hfb HNx
          go_wp2_with fail
          go_ret
          exact ⟨rfl, HBy.out⟩
        have hd4 : decide (1000000000000000 < x) = false := decide_eq_false c2
        by_cases c3 : x = 0
        · have hok := HNx.out (by simp [fieldBad, mostI, c3])
          have HOK2 := Lib.hid hok
          subst c3
          clear hfb HNx hok
          go_wp2_with fail
          go_roundw
          case rel => exact ⟨5 + 1, 6, rfl, by omega, by go_num, HOK2.out, HOy, HBy⟩
          case measure => simp [intOf]
        have hd5 : (x != 0) = true := by simpa using c3
        have hbad : fieldBad k 5 x = !usesHas k 5 := by simp [fieldBad, mostI, c1, c2, c3]
        rw [hbad] at hfb HNx
        clear hbad
        generalize usesHas k 5 = q at HHj hfb HNx
        have hwr : IntKind.i64.wrap 6 = 6 := by rfl
        go_wp2_with fail
        refine (HHj.out _).mono ?_
        rintro e _ ⟨rfl, rfl⟩
        cases q with
        | false =>
          have hv := hfb.out rfl
          subst hv
          clear hfb HNx
          go_wp2_with fail
          go_ret
          exact ⟨rfl, HBy.out⟩
        | true =>
          have HOK2 := Lib.hid (HNx.out rfl)
          clear hfb HNx
          go_wp2_with fail
          go_roundw
          case rel => exact ⟨5 + 1, 6, rfl, by omega, by go_num, HOK2.out, HOy, HBy⟩
          case measure => simp [intOf]
    · obtain rfl : j = 6 := by omega
      obtain rfl : z = 6 := hz
      have hv := HVok.out HOK.out
      subst hv
      go_wp2_with fail
      go_ret
      exact ⟨rfl, hB.out⟩
end Go.Proofs.YtchbkceconlbkaaGreatDoor
