/- pledgeref26.Bytes: an operation as bytes, by the reference. (Written by gen_refbytes.py.) -/
import Derived.Test.YtchbkceconlbkaaGreatDoorRefPut
import Derived.Deep.RegionHeld3
namespace Go.Proofs.YtchbkceconlbkaaGreatDoor
open Go Go.RowKit
set_option linter.unusedSimpArgs false
set_option linter.unusedVariables false

theorem numsO_take (id k a b c d n m : Int) (j : Nat) (hj : j < 6) : (numsO id k a b c d n m).take (2 + (j + 1)) = (numsO id k a b c d n m).take (2 + j) ++ [fieldAt a b c d n m j] := by
  have : j = 0 ∨ j = 1 ∨ j = 2 ∨ j = 3 ∨ j = 4 ∨ j = 5 := by omega
  rcases this with rfl | rfl | rfl | rfl | rfl | rfl <;> rfl
theorem numsB_snoc (l : List Int) (x : Int) : bytesI (numsB (l ++ [x])) = bytesI (numsB l) ++ bytesI (encZ (zz x)) := by
  rw [numsB_append, bytesI_append]
  simp [numsB]
set_option maxHeartbeats 16000000 in
set_option maxRecDepth 100000 in
theorem refBytes26_calls {id k a b c d n m : Int} (hv : validC id k a b c d n m = 0) (w : World) :
    Calls Tryz.prog 12 #[opV id k a b c d n m] w fun e w' => ∃ u, e = .returned u ∧ RdB w' u (bytesI (numsB (numsO id k a b c d n m))) ∧ Below w.heap.size w w' := by
  have HIn := Lib.hid (numsO_in hv)
  have hb0 : Below w.heap.size w (w.alloc (Obj.cells #[.int .i64 id, .int .i64 k, .int .i64 a, .int .i64 b, .int .i64 c, .int .i64 d, .int .i64 n, .int .i64 m] 23)) := (Below.refl _ _).alloc (Nat.le_refl _) _
  have hO := opAt_new w id k a b c d n m 23
  have HB := Lib.hid hb0
  have HO := Lib.hid hO
  have hc0 := hO.c0
  have hlen : ∀ q, (bytesI (numsB ((numsO id k a b c d n m).take q))).length ≤ 80 := fun q => by
    have h := numsB_len ((numsO id k a b c d n m).take q) (fun x hx => HIn.out x (List.mem_of_mem_take hx))
    rw [List.length_take] at h
    simp only [bytesI, List.length_map]
    have : (numsO id k a b c d n m).length = 8 := rfl
    omega
  have HLen := Lib.hid hlen
  have hid := HIn.out id (by simp [numsO])
  have hik := HIn.out k (by simp [numsO])
  have HP1 := Lib.hid (refPut_calls (w := w.alloc (Obj.cells #[.int .i64 id, .int .i64 k, .int .i64 a, .int .i64 b, .int .i64 c, .int .i64 d, .int .i64 n, .int .i64 m] 23)) (v := .slice none 0 0) (xs := []) (.inl ⟨rfl, rfl⟩) id hid.1 hid.2 (by show 0 ≤ 90000; decide))
  have HIk := Lib.hid hik
  clear hb0 hO hlen hid hik
  go_enter Tryz.func12, Tryz.ntmps12
  go_upto_region 1 with fail
  generalize w.alloc (Obj.cells #[.int .i64 id, .int .i64 k, .int .i64 a, .int .i64 b, .int .i64 c, .int .i64 d, .int .i64 n, .int .i64 m] 23) = W1 at *
  go_wp2_with fail
  refine HP1.out.mono ?_
  rintro e w2 ⟨u2, rfl, ho, hb⟩
  have HO := Lib.hid (HO.out.below hb)
  have HB := Lib.hid (bbase HB.out hb)
  have HR := Lib.hid ho.rd
  have hc1 := HO.out.c1
  clear hb ho hc0 HP1
  rw [List.nil_append] at HR
  have HP2 := Lib.hid (refPut_calls HR.out k HIk.out.1 HIk.out.2 (by have h := encZ_len 9 (zz id) (Nat.lt_of_lt_of_le (zz_lt (by have := (HIn.out id (by simp [numsO])).1; omega) (by have := (HIn.out id (by simp [numsO])).2; omega)) (by decide)); simp only [bytesI, List.length_map]; omega))
  go_wp2_with fail
  refine HP2.out.mono ?_
  rintro e w3 ⟨u3, rfl, ho, hb⟩
  have HO := Lib.hid (HO.out.below hb)
  have HB := Lib.hid (bbase HB.out hb)
  have HR3 : Hid (RdB w3 u3 (bytesI (numsB ((numsO id k a b c d n m).take (2 + 0))))) := by
    have h := ho.rd
    rw [← bytesI_append] at h
    have e2 : numsB ((numsO id k a b c d n m).take (2 + 0)) = encZ (zz id) ++ encZ (zz k) := by
      show numsB [id, k] = _
      simp [numsB]
    unfold Hid
    rw [e2]
    exact h
  clear hb ho hc1 HP2 HR HIk
  go_wp2_with fail
  go_loopw [5, 3] (fun i u wr => ∃ (j : Nat) (z : Int), z = j ∧ j ≤ 6 ∧ i = .int .i64 z ∧ Hid (RdB wr u (bytesI (numsB ((numsO id k a b c d n m).take (2 + j))))) ∧ Hid (OpAt wr w.heap.size id k a b c d n m) ∧ Hid (Below w.heap.size w wr)) (fun i _ _ => 6 - (intOf i).toNat)
  case atStart => exact ⟨0, 0, rfl, by omega, rfl, HR3, HO, HB⟩
  case round =>
    obtain ⟨j, z, hz, hj, rfl, hR, hO, hB⟩ := hrel
    clear HR3 HO HB
    by_cases hj6 : j < 6
    · have HFd := Lib.hid (fun w' => refField_calls id k a b c d n m hj6 w')
      have hin : inR (fieldAt a b c d n m j) := by
        refine HIn.out _ ?_
        have : j = 0 ∨ j = 1 ∨ j = 2 ∨ j = 3 ∨ j = 4 ∨ j = 5 := by omega
        rcases this with rfl | rfl | rfl | rfl | rfl | rfl <;> simp [numsO, fieldAt]
      have HSn : Hid (bytesI (numsB ((numsO id k a b c d n m).take (2 + (j + 1)))) = bytesI (numsB ((numsO id k a b c d n m).take (2 + j))) ++ bytesI (encZ (zz (fieldAt a b c d n m j)))) := by
        rw [Hid, numsO_take id k a b c d n m j hj6, numsB_snoc]
      have HPj := Lib.hid (fun (w' : World) (u : Value) (h : RdB w' u (bytesI (numsB ((numsO id k a b c d n m).take (2 + j))))) => refPut_calls h (fieldAt a b c d n m j) hin.1 hin.2 (by have := HLen.out (2 + j); omega))
      have hlt := hO.out.lt
      have x0 := hO.out.c0; have x1 := hO.out.c1; have x2 := hO.out.c2; have x3 := hO.out.c3; have x4 := hO.out.c4; have x5 := hO.out.c5; have x6 := hO.out.c6; have x7 := hO.out.c7
      generalize bytesI (numsB ((numsO id k a b c d n m).take (2 + j))) = bj at hR HPj HSn
      generalize fieldAt a b c d n m j = x at HFd HPj HSn
      clear hin
      have hjc : j = 0 ∨ j = 1 ∨ j = 2 ∨ j = 3 ∨ j = 4 ∨ j = 5 := by omega
      rcases hjc with rfl | rfl | rfl | rfl | rfl | rfl
      · obtain rfl : z = 0 := hz
        rw [show ((letterAt 0).toNat : Int) = 65 from rfl] at HFd
        go_upto_region 7 with fail
        go_region_held3 (fun w1 => w1.cell? ⟨w.heap.size, 0, none⟩ = some (.int .i64 id) ∧ w1.cell? ⟨w.heap.size, 1, none⟩ = some (.int .i64 k) ∧ w1.cell? ⟨w.heap.size, 2, none⟩ = some (.int .i64 a) ∧ w1.cell? ⟨w.heap.size, 3, none⟩ = some (.int .i64 b) ∧ w1.cell? ⟨w.heap.size, 4, none⟩ = some (.int .i64 c) ∧ w1.cell? ⟨w.heap.size, 5, none⟩ = some (.int .i64 d) ∧ w1.cell? ⟨w.heap.size, 6, none⟩ = some (.int .i64 n) ∧ w1.cell? ⟨w.heap.size, 7, none⟩ = some (.int .i64 m))
          (first | exact ⟨x0, x1, x2, x3, x4, x5, x6, x7⟩ | exact ⟨HOy.out.c0, HOy.out.c1, HOy.out.c2, HOy.out.c3, HOy.out.c4, HOy.out.c5, HOy.out.c6, HOy.out.c7⟩ | exact ⟨HOz.out.c0, HOz.out.c1, HOz.out.c2, HOz.out.c3, HOz.out.c4, HOz.out.c5, HOz.out.c6, HOz.out.c7⟩)
          (first
            | (go_at_call 22; go_loud (refine (HFd.out _).mono ?_); go_loud (rintro e wy ⟨rfl, hb⟩; have hb := (Below.refl wr.heap.size wr).drew.trans hb; have HOy := Lib.hid (hO.out.below hb); have HBy := Lib.hid (bbase hB.out hb); have HRy := Lib.hid (hR.out.below hb)))
            | (go_at_call 31; go_loud (refine (HPj.out _ _ HRy.out).mono ?_); go_loud (rintro e wz ⟨uz, rfl, hoz, hbz⟩; have HOz := Lib.hid (HOy.out.below hbz); have HBz := Lib.hid (bbase HBy.out hbz); have HRz := Lib.hid hoz.rd; clear hoz hbz)))
        clear x0 x1 x2 x3 x4 x5 x6 x7 hO hB hb HFd hlt HOy HBy HRy hR HPj
        rw [← HSn.out] at HRz
        clear HSn
        have hwr : IntKind.i64.wrap 1 = 1 := by rfl
        go_wp2_with fail
        go_roundw
        case rel => exact ⟨0 + 1, 1, rfl, by omega, by go_num, HRz, HOz, HBz⟩
        case measure => simp [intOf]
      · obtain rfl : z = 1 := hz
        rw [show ((letterAt 1).toNat : Int) = 66 from rfl] at HFd
        go_upto_region 7 with fail
        go_region_held3 (fun w1 => w1.cell? ⟨w.heap.size, 0, none⟩ = some (.int .i64 id) ∧ w1.cell? ⟨w.heap.size, 1, none⟩ = some (.int .i64 k) ∧ w1.cell? ⟨w.heap.size, 2, none⟩ = some (.int .i64 a) ∧ w1.cell? ⟨w.heap.size, 3, none⟩ = some (.int .i64 b) ∧ w1.cell? ⟨w.heap.size, 4, none⟩ = some (.int .i64 c) ∧ w1.cell? ⟨w.heap.size, 5, none⟩ = some (.int .i64 d) ∧ w1.cell? ⟨w.heap.size, 6, none⟩ = some (.int .i64 n) ∧ w1.cell? ⟨w.heap.size, 7, none⟩ = some (.int .i64 m))
          (first | exact ⟨x0, x1, x2, x3, x4, x5, x6, x7⟩ | exact ⟨HOy.out.c0, HOy.out.c1, HOy.out.c2, HOy.out.c3, HOy.out.c4, HOy.out.c5, HOy.out.c6, HOy.out.c7⟩ | exact ⟨HOz.out.c0, HOz.out.c1, HOz.out.c2, HOz.out.c3, HOz.out.c4, HOz.out.c5, HOz.out.c6, HOz.out.c7⟩)
          (first
            | (go_at_call 22; go_loud (refine (HFd.out _).mono ?_); go_loud (rintro e wy ⟨rfl, hb⟩; have hb := (Below.refl wr.heap.size wr).drew.trans hb; have HOy := Lib.hid (hO.out.below hb); have HBy := Lib.hid (bbase hB.out hb); have HRy := Lib.hid (hR.out.below hb)))
            | (go_at_call 31; go_loud (refine (HPj.out _ _ HRy.out).mono ?_); go_loud (rintro e wz ⟨uz, rfl, hoz, hbz⟩; have HOz := Lib.hid (HOy.out.below hbz); have HBz := Lib.hid (bbase HBy.out hbz); have HRz := Lib.hid hoz.rd; clear hoz hbz)))
        clear x0 x1 x2 x3 x4 x5 x6 x7 hO hB hb HFd hlt HOy HBy HRy hR HPj
        rw [← HSn.out] at HRz
        clear HSn
        have hwr : IntKind.i64.wrap 2 = 2 := by rfl
        go_wp2_with fail
        go_roundw
        case rel => exact ⟨1 + 1, 2, rfl, by omega, by go_num, HRz, HOz, HBz⟩
        case measure => simp [intOf]
      · obtain rfl : z = 2 := hz
        rw [show ((letterAt 2).toNat : Int) = 67 from rfl] at HFd
        go_upto_region 7 with fail
        go_region_held3 (fun w1 => w1.cell? ⟨w.heap.size, 0, none⟩ = some (.int .i64 id) ∧ w1.cell? ⟨w.heap.size, 1, none⟩ = some (.int .i64 k) ∧ w1.cell? ⟨w.heap.size, 2, none⟩ = some (.int .i64 a) ∧ w1.cell? ⟨w.heap.size, 3, none⟩ = some (.int .i64 b) ∧ w1.cell? ⟨w.heap.size, 4, none⟩ = some (.int .i64 c) ∧ w1.cell? ⟨w.heap.size, 5, none⟩ = some (.int .i64 d) ∧ w1.cell? ⟨w.heap.size, 6, none⟩ = some (.int .i64 n) ∧ w1.cell? ⟨w.heap.size, 7, none⟩ = some (.int .i64 m))
          (first | exact ⟨x0, x1, x2, x3, x4, x5, x6, x7⟩ | exact ⟨HOy.out.c0, HOy.out.c1, HOy.out.c2, HOy.out.c3, HOy.out.c4, HOy.out.c5, HOy.out.c6, HOy.out.c7⟩ | exact ⟨HOz.out.c0, HOz.out.c1, HOz.out.c2, HOz.out.c3, HOz.out.c4, HOz.out.c5, HOz.out.c6, HOz.out.c7⟩)
          (first
            | (go_at_call 22; go_loud (refine (HFd.out _).mono ?_); go_loud (rintro e wy ⟨rfl, hb⟩; have hb := (Below.refl wr.heap.size wr).drew.trans hb; have HOy := Lib.hid (hO.out.below hb); have HBy := Lib.hid (bbase hB.out hb); have HRy := Lib.hid (hR.out.below hb)))
            | (go_at_call 31; go_loud (refine (HPj.out _ _ HRy.out).mono ?_); go_loud (rintro e wz ⟨uz, rfl, hoz, hbz⟩; have HOz := Lib.hid (HOy.out.below hbz); have HBz := Lib.hid (bbase HBy.out hbz); have HRz := Lib.hid hoz.rd; clear hoz hbz)))
        clear x0 x1 x2 x3 x4 x5 x6 x7 hO hB hb HFd hlt HOy HBy HRy hR HPj
        rw [← HSn.out] at HRz
        clear HSn
        have hwr : IntKind.i64.wrap 3 = 3 := by rfl
        go_wp2_with fail
        go_roundw
        case rel => exact ⟨2 + 1, 3, rfl, by omega, by go_num, HRz, HOz, HBz⟩
        case measure => simp [intOf]
      · obtain rfl : z = 3 := hz
        rw [show ((letterAt 3).toNat : Int) = 68 from rfl] at HFd
        go_upto_region 7 with fail
        go_region_held3 (fun w1 => w1.cell? ⟨w.heap.size, 0, none⟩ = some (.int .i64 id) ∧ w1.cell? ⟨w.heap.size, 1, none⟩ = some (.int .i64 k) ∧ w1.cell? ⟨w.heap.size, 2, none⟩ = some (.int .i64 a) ∧ w1.cell? ⟨w.heap.size, 3, none⟩ = some (.int .i64 b) ∧ w1.cell? ⟨w.heap.size, 4, none⟩ = some (.int .i64 c) ∧ w1.cell? ⟨w.heap.size, 5, none⟩ = some (.int .i64 d) ∧ w1.cell? ⟨w.heap.size, 6, none⟩ = some (.int .i64 n) ∧ w1.cell? ⟨w.heap.size, 7, none⟩ = some (.int .i64 m))
          (first | exact ⟨x0, x1, x2, x3, x4, x5, x6, x7⟩ | exact ⟨HOy.out.c0, HOy.out.c1, HOy.out.c2, HOy.out.c3, HOy.out.c4, HOy.out.c5, HOy.out.c6, HOy.out.c7⟩ | exact ⟨HOz.out.c0, HOz.out.c1, HOz.out.c2, HOz.out.c3, HOz.out.c4, HOz.out.c5, HOz.out.c6, HOz.out.c7⟩)
          (first
            | (go_at_call 22; go_loud (refine (HFd.out _).mono ?_); go_loud (rintro e wy ⟨rfl, hb⟩; have hb := (Below.refl wr.heap.size wr).drew.trans hb; have HOy := Lib.hid (hO.out.below hb); have HBy := Lib.hid (bbase hB.out hb); have HRy := Lib.hid (hR.out.below hb)))
            | (go_at_call 31; go_loud (refine (HPj.out _ _ HRy.out).mono ?_); go_loud (rintro e wz ⟨uz, rfl, hoz, hbz⟩; have HOz := Lib.hid (HOy.out.below hbz); have HBz := Lib.hid (bbase HBy.out hbz); have HRz := Lib.hid hoz.rd; clear hoz hbz)))
        clear x0 x1 x2 x3 x4 x5 x6 x7 hO hB hb HFd hlt HOy HBy HRy hR HPj
        rw [← HSn.out] at HRz
        clear HSn
        have hwr : IntKind.i64.wrap 4 = 4 := by rfl
        go_wp2_with fail
        go_roundw
        case rel => exact ⟨3 + 1, 4, rfl, by omega, by go_num, HRz, HOz, HBz⟩
        case measure => simp [intOf]
      · obtain rfl : z = 4 := hz
        rw [show ((letterAt 4).toNat : Int) = 78 from rfl] at HFd
        go_upto_region 7 with fail
        go_region_held3 (fun w1 => w1.cell? ⟨w.heap.size, 0, none⟩ = some (.int .i64 id) ∧ w1.cell? ⟨w.heap.size, 1, none⟩ = some (.int .i64 k) ∧ w1.cell? ⟨w.heap.size, 2, none⟩ = some (.int .i64 a) ∧ w1.cell? ⟨w.heap.size, 3, none⟩ = some (.int .i64 b) ∧ w1.cell? ⟨w.heap.size, 4, none⟩ = some (.int .i64 c) ∧ w1.cell? ⟨w.heap.size, 5, none⟩ = some (.int .i64 d) ∧ w1.cell? ⟨w.heap.size, 6, none⟩ = some (.int .i64 n) ∧ w1.cell? ⟨w.heap.size, 7, none⟩ = some (.int .i64 m))
          (first | exact ⟨x0, x1, x2, x3, x4, x5, x6, x7⟩ | exact ⟨HOy.out.c0, HOy.out.c1, HOy.out.c2, HOy.out.c3, HOy.out.c4, HOy.out.c5, HOy.out.c6, HOy.out.c7⟩ | exact ⟨HOz.out.c0, HOz.out.c1, HOz.out.c2, HOz.out.c3, HOz.out.c4, HOz.out.c5, HOz.out.c6, HOz.out.c7⟩)
          (first
            | (go_at_call 22; go_loud (refine (HFd.out _).mono ?_); go_loud (rintro e wy ⟨rfl, hb⟩; have hb := (Below.refl wr.heap.size wr).drew.trans hb; have HOy := Lib.hid (hO.out.below hb); have HBy := Lib.hid (bbase hB.out hb); have HRy := Lib.hid (hR.out.below hb)))
            | (go_at_call 31; go_loud (refine (HPj.out _ _ HRy.out).mono ?_); go_loud (rintro e wz ⟨uz, rfl, hoz, hbz⟩; have HOz := Lib.hid (HOy.out.below hbz); have HBz := Lib.hid (bbase HBy.out hbz); have HRz := Lib.hid hoz.rd; clear hoz hbz)))
        clear x0 x1 x2 x3 x4 x5 x6 x7 hO hB hb HFd hlt HOy HBy HRy hR HPj
        rw [← HSn.out] at HRz
        clear HSn
        have hwr : IntKind.i64.wrap 5 = 5 := by rfl
        go_wp2_with fail
        go_roundw
        case rel => exact ⟨4 + 1, 5, rfl, by omega, by go_num, HRz, HOz, HBz⟩
        case measure => simp [intOf]
      · obtain rfl : z = 5 := hz
        rw [show ((letterAt 5).toNat : Int) = 77 from rfl] at HFd
        go_upto_region 7 with fail
        go_region_held3 (fun w1 => w1.cell? ⟨w.heap.size, 0, none⟩ = some (.int .i64 id) ∧ w1.cell? ⟨w.heap.size, 1, none⟩ = some (.int .i64 k) ∧ w1.cell? ⟨w.heap.size, 2, none⟩ = some (.int .i64 a) ∧ w1.cell? ⟨w.heap.size, 3, none⟩ = some (.int .i64 b) ∧ w1.cell? ⟨w.heap.size, 4, none⟩ = some (.int .i64 c) ∧ w1.cell? ⟨w.heap.size, 5, none⟩ = some (.int .i64 d) ∧ w1.cell? ⟨w.heap.size, 6, none⟩ = some (.int .i64 n) ∧ w1.cell? ⟨w.heap.size, 7, none⟩ = some (.int .i64 m))
          (first | exact ⟨x0, x1, x2, x3, x4, x5, x6, x7⟩ | exact ⟨HOy.out.c0, HOy.out.c1, HOy.out.c2, HOy.out.c3, HOy.out.c4, HOy.out.c5, HOy.out.c6, HOy.out.c7⟩ | exact ⟨HOz.out.c0, HOz.out.c1, HOz.out.c2, HOz.out.c3, HOz.out.c4, HOz.out.c5, HOz.out.c6, HOz.out.c7⟩)
          (first
            | (go_at_call 22; go_loud (refine (HFd.out _).mono ?_); go_loud (rintro e wy ⟨rfl, hb⟩; have hb := (Below.refl wr.heap.size wr).drew.trans hb; have HOy := Lib.hid (hO.out.below hb); have HBy := Lib.hid (bbase hB.out hb); have HRy := Lib.hid (hR.out.below hb)))
            | (go_at_call 31; go_loud (refine (HPj.out _ _ HRy.out).mono ?_); go_loud (rintro e wz ⟨uz, rfl, hoz, hbz⟩; have HOz := Lib.hid (HOy.out.below hbz); have HBz := Lib.hid (bbase HBy.out hbz); have HRz := Lib.hid hoz.rd; clear hoz hbz)))
        clear x0 x1 x2 x3 x4 x5 x6 x7 hO hB hb HFd hlt HOy HBy HRy hR HPj
        rw [← HSn.out] at HRz
        clear HSn
        have hwr : IntKind.i64.wrap 6 = 6 := by rfl
        go_wp2_with fail
        go_roundw
        case rel => exact ⟨5 + 1, 6, rfl, by omega, by go_num, HRz, HOz, HBz⟩
        case measure => simp [intOf]
    · obtain rfl : j = 6 := by omega
      obtain rfl : z = 6 := hz
      have hR' := hR.out
      rw [show (numsO id k a b c d n m).take (2 + 6) = numsO id k a b c d n m from rfl] at hR'
      obtain ⟨ua, uc, rfl, _, _⟩ := hR'.len
      have HR' := Lib.hid hR'
      clear hR hR'
      go_wp2_with fail
      go_ret
      exact ⟨_, rfl, HR'.out, hB.out⟩
end Go.Proofs.YtchbkceconlbkaaGreatDoor
