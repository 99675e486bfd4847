/- pledgeref26.Text: an operation as text, by the reference. (Written by gen_reftext.py.) -/
import Derived.Test.YtchbkceconlbkaaGreatDoorRefOp1
import Derived.Test.YtchbkceconlbkaaGreatDoorParseLaw
import Derived.Deep.RegionHeld3
namespace Go.Proofs.YtchbkceconlbkaaGreatDoor
open Go Go.RowKit
set_option linter.unusedSimpArgs false
set_option linter.unusedVariables false

/-- The text's first words. -/
def textP (ws : List ByteArray) (q : Nat) : ByteArray := ⟨(Lib.join ((ws.take q).map (·.data.toList)) [32]).toArray⟩
theorem joinTail_snoc (r : List (List UInt8)) (y : List UInt8) : Lib.joinTail [32] (r ++ [y]) = Lib.joinTail [32] r ++ 32 :: y := by simp [Lib.joinTail]
theorem textP_snoc (x : ByteArray) (ws : List ByteArray) (q : Nat) (hq : q < ws.length) : textP (x :: ws) (q + 2) = textP (x :: ws) (q + 1) ++ ⟨#[32]⟩ ++ ws.getD q ⟨#[]⟩ := by
  apply ByteArray.ext
  apply Array.toList_inj.1
  have e : ws.getD q ⟨#[]⟩ = ws[q] := by simp [List.getD, hq]
  rw [e]
  simp only [textP, ByteArray.data_append, Array.toList_append, List.take_succ_cons, List.map_cons, Lib.join_cons]
  rw [List.take_add_one, List.getElem?_eq_getElem hq, Option.toList_some, List.map_append, List.map_singleton, joinTail_snoc]
  simp
theorem uses_letterAt (k : Nat) : ∀ q ∈ (usesB k).data.toList, letterAt (letterIx q) = q := by
  unfold usesB
  split <;> decide
theorem textP_all (ws : List ByteArray) : textP ws ws.length = ⟨(Lib.join (ws.map (·.data.toList)) [32]).toArray⟩ := by unfold textP; rw [List.take_length]
set_option maxHeartbeats 16000000 in
set_option maxRecDepth 100000 in
theorem refText_calls {B : Nat} {id k a b c d n m : Int} (hv : validC id k a b c d n m = 0) {w : World} (hT : OpW B w) :
    Calls Tryz.prog 14 #[opV id k a b c d n m] w fun e w' => e = .returned (.string (textT id k a b c d n m)) ∧ Below w.heap.size w w' := by
  obtain ⟨hi1, hi2, hk3, hf⟩ := validC_zero hv
  have hk : 1 ≤ k ∧ k ≤ 16 := by simpa [isK] using hk3
  have hus : usesK k = usesB k.toNat := by unfold usesK; rw [if_pos hk3]
  have hb0 : Below w.heap.size w (w.alloc (Obj.cells #[.int .i64 id, .int .i64 k, .int .i64 a, .int .i64 b, .int .i64 c, .int .i64 d, .int .i64 n, .int .i64 m] 23)) := (Below.refl _ _).alloc (Nat.le_refl _) _
  have HO := Lib.hid (opAt_new w id k a b c d n m 23)
  have HB := Lib.hid hb0
  have HT := Lib.hid (hT.on hb0)
  obtain ⟨t, ht⟩ : ∃ t, t = textT id k a b c d n m := ⟨_, rfl⟩
  rw [← ht]
  have HTx : Hid (t = textP (wordsT id k a b c d n m) (2 + (usesB k.toNat).size)) := by
    rw [Hid, ht]
    have := textP_all (wordsT id k a b c d n m)
    rw [wordsT_length] at this
    exact this.symm
  have HSn : Hid (∀ (q : Nat) (hq : q < (usesB k.toNat).size), textP (wordsT id k a b c d n m) (2 + (q + 1)) = textP (wordsT id k a b c d n m) (2 + q) ++ ⟨#[32]⟩ ++ itoaB (fieldAt a b c d n m (letterIx ((usesB k.toNat)[q]'hq)))) := fun q hq => by
    have h := textP_snoc (itoaB id) (nameB k :: (usesB k.toNat).data.toList.map (fun q => itoaB (fieldAt a b c d n m (letterIx q)))) (q + 1) (by simp only [List.length_cons, List.length_map]; have : (usesB k.toNat).data.toList.length = (usesB k.toNat).size := rfl; omega)
    rw [show 2 + (q + 1) = q + 1 + 2 by omega, show 2 + q = q + 1 + 1 by omega]
    refine h.trans ?_
    congr 1
    rw [List.getD_cons_succ, List.getD, List.getElem?_map, List.getElem?_eq_getElem (show q < (usesB k.toNat).data.toList.length from hq)]
    rfl
  have H2 : Hid (textP (wordsT id k a b c d n m) (2 + 0) = itoaB id ++ ⟨#[32]⟩ ++ nameB k) := by
    have h := textP_snoc (itoaB id) (nameB k :: (usesB k.toNat).data.toList.map (fun q => itoaB (fieldAt a b c d n m (letterIx q)))) 0 (by simp)
    refine h.trans ?_
    have : textP (wordsT id k a b c d n m) (0 + 1) = itoaB id := by
      apply ByteArray.ext
      apply Array.toList_inj.1
      simp [textP, wordsT, Lib.join_cons, Lib.joinTail]
    show textP (wordsT id k a b c d n m) (0 + 1) ++ _ ++ _ = _
    rw [this]
    rfl
  have HLet := Lib.hid (uses_letters k.toNat)
  have HLA := Lib.hid (uses_letterAt k.toNat)
  have hul := uses_size k.toNat
  have HU := Lib.hid (fun w' => refUses_calls k w')
  rw [hus] at HU
  have HF := Lib.hid hf
  have HI := Lib.hid (fun (w' : World) (h : OpW B w') => formatInt_calls h id (by omega) (by omega))
  have HNm := Lib.hid (fun w' => refName_calls k w')
  generalize textP (wordsT id k a b c d n m) = TP at HTx HSn H2
  generalize usesB k.toNat = u at HTx HSn HLet HLA hul HU
  have hnb := nameB_size k
  have hib : (itoaB id).size ≤ 21 := itoaB_size (n := id) (by omega) (by omega)
  generalize nameB k = nb at H2 HNm hnb
  generalize itoaB id = ib at H2 HI hib
  have hz1 : ib.size + (⟨#[32]⟩ : ByteArray).size ≤ 9223372036854775807 := by show ib.size + 1 ≤ _; omega
  have hz1b : ib.size + 1 ≤ 9223372036854775807 := by omega
  have hz2 : (ib ++ ⟨#[32]⟩).size + nb.size ≤ 9223372036854775807 := by rw [ByteArray.size_append]; show ib.size + 1 + _ ≤ _; omega
  have hz2b : ib.size + 1 + nb.size ≤ 9223372036854775807 := by omega
  have hz1c : ¬ ib.size + 1 > 9223372036854775807 := by omega
  have hz1d : ¬ ib.size + (⟨#[32]⟩ : ByteArray).size > 9223372036854775807 := by omega
  have hz2c : ¬ ib.size + 1 + nb.size > 9223372036854775807 := by omega
  have hz2d : ¬ (ib ++ ⟨#[32]⟩).size + nb.size > 9223372036854775807 := by omega
  have hc0 := HO.out.c0; have hc1 := HO.out.c1; have hc2 := HO.out.c2; have hc3 := HO.out.c3; have hc4 := HO.out.c4; have hc5 := HO.out.c5; have hc6 := HO.out.c6; have hc7 := HO.out.c7
  clear hb0 hT ht hus hf hk3 hv
  go_enter Tryz.func14, Tryz.ntmps14
  go_upto_region 1 with fail
  generalize w.alloc (Obj.cells #[.int .i64 id, .int .i64 k, .int .i64 a, .int .i64 b, .int .i64 c, .int .i64 d, .int .i64 n, .int .i64 m] 23) = W1 at *
  go_region_held3 (fun w1 => w1.cell? ⟨w.heap.size, 0, none⟩ = some (.int .i64 id) ∧ w1.cell? ⟨w.heap.size, 1, none⟩ = some (.int .i64 k) ∧ w1.cell? ⟨w.heap.size, 2, none⟩ = some (.int .i64 a) ∧ w1.cell? ⟨w.heap.size, 3, none⟩ = some (.int .i64 b) ∧ w1.cell? ⟨w.heap.size, 4, none⟩ = some (.int .i64 c) ∧ w1.cell? ⟨w.heap.size, 5, none⟩ = some (.int .i64 d) ∧ w1.cell? ⟨w.heap.size, 6, none⟩ = some (.int .i64 n) ∧ w1.cell? ⟨w.heap.size, 7, none⟩ = some (.int .i64 m))
    (first | exact ⟨hc0, hc1, hc2, hc3, hc4, hc5, hc6, hc7⟩ | exact ⟨HO5.out.c0, HO5.out.c1, HO5.out.c2, HO5.out.c3, HO5.out.c4, HO5.out.c5, HO5.out.c6, HO5.out.c7⟩ | exact ⟨HO6.out.c0, HO6.out.c1, HO6.out.c2, HO6.out.c3, HO6.out.c4, HO6.out.c5, HO6.out.c6, HO6.out.c7⟩)
    (first
      | (go_at_call 32; go_loud (refine (HI.out _ (HT.out.on (Below.refl _ _).drew)).mono ?_); go_loud (rintro e w5 ⟨rfl, hb⟩; have hb := (Below.refl W1.heap.size W1).drew.trans hb; have HO5 := Lib.hid (HO.out.below hb); have HB5 := Lib.hid (bbase HB.out hb); have HT5 := Lib.hid (HT.out.on hb); clear hb))
      | (go_at_call 10; go_loud (refine (HNm.out _).mono ?_); go_loud (rintro e w6 ⟨rfl, hb⟩; have HO6 := Lib.hid (HO5.out.below hb); have HB6 := Lib.hid (bbase HB5.out hb); have HT6 := Lib.hid (HT5.out.on hb); clear hb)))
  have hs0 : (TP (2 + 0)).size ≤ 40 := by
    rw [H2.out, ByteArray.size_append, ByteArray.size_append]
    show ib.size + 1 + nb.size ≤ 40
    omega
  rw [← H2.out]
  clear hz1 hz1b hz1c hz1d hz2 hz2b hz2c hz2d HI HNm H2 HO5 HB5 HT5 HO HB HT hc0 hc1 hc2 hc3 hc4 hc5 hc6 hc7
  have hc1 := HO6.out.c1
  have hlt6 := HO6.out.lt
  go_wp2_with fail
  refine (HU.out _).mono ?_
  rintro e _ ⟨rfl, rfl⟩
  clear HU hc1 hlt6
  go_wp2_with fail
  go_loopw [5, 3] (fun i v wr => ∃ q : Nat, q ≤ u.size ∧ i = .int .i64 q ∧ v = .string (TP (2 + q)) ∧ Hid ((TP (2 + q)).size ≤ 40 + 22 * q) ∧ Hid (OpAt wr w.heap.size id k a b c d n m) ∧ Hid (Below w.heap.size w wr) ∧ Hid (OpW B wr)) (fun i _ _ => u.size - (intOf i).toNat)
  case atStart => exact ⟨0, by omega, rfl, rfl, hs0, HO6, HB6, HT6⟩
  case round =>
    obtain ⟨q, hq, rfl, rfl, hS, hO, hB, hT⟩ := hrel
    clear hs0 HO6 HB6 HT6
    by_cases hqu : q < u.size
    · obtain ⟨hl1, hl2, _⟩ := HLet.out _ (ba_mem u q hqu)
      have hla := HLA.out _ (ba_mem u q hqu)
      have HFd := Lib.hid (fun w' => refField_calls id k a b c d n m hl2 w')
      rw [hla] at HFd
      have hxb := fieldBad_bounds (HF.out _ hl2)
      have HFI := Lib.hid (fun (w' : World) (h : OpW B w') => formatInt_calls h (fieldAt a b c d n m (letterIx (u[q]'hqu))) (by omega) (by omega))
      have his : (itoaB (fieldAt a b c d n m (letterIx (u[q]'hqu)))).size ≤ 21 := itoaB_size (n := fieldAt a b c d n m (letterIx (u[q]'hqu))) (by omega) (by omega)
      have HSt := Lib.hid (HSn.out q hqu)
      clear hxb hla hl1 hl2
      generalize itoaB (fieldAt a b c d n m (letterIx (u[q]'hqu))) = it at HFI his HSt
      generalize fieldAt a b c d n m (letterIx (u[q]'hqu)) = x at HFd HFI
      have hss := hS.out
      have hnx : (TP (2 + (q + 1))).size ≤ 40 + 22 * (q + 1) := by
        rw [HSt.out, ByteArray.size_append, ByteArray.size_append]
        show (TP (2 + q)).size + 1 + it.size ≤ _
        omega
      have HNx := Lib.hid hnx
      obtain ⟨s2, hs2⟩ : ∃ s2, s2 = TP (2 + (q + 1)) := ⟨_, rfl⟩
      rw [← hs2] at HSt HNx
      have HS2 := Lib.hid hs2
      clear hs2
      generalize TP (2 + q) = s1 at HSt hss
      have hz1 : s1.size + 1 ≤ 9223372036854775807 := by omega
      have hz1c : ¬ s1.size + 1 > 9223372036854775807 := by omega
      have hz2b : s1.size + 1 + it.size ≤ 9223372036854775807 := by omega
      have hz2c : ¬ s1.size + 1 + it.size > 9223372036854775807 := by omega
      have hi0 : (0 : Int) ≤ (q : Int) := by omega
      have hi1 : (q : Int) < (u.size : Int) := by omega
      have hc0 := hO.out.c0; have hc1 := hO.out.c1; have hc2 := hO.out.c2; have hc3 := hO.out.c3; have hc4 := hO.out.c4; have hc5 := hO.out.c5; have hc6 := hO.out.c6; have hc7 := hO.out.c7
      clear hnx hss
      go_upto_region 6 with fail
      go_region_held3 (fun w1 => w1.cell? ⟨w.heap.size, 0, none⟩ = some (.int .i64 id) ∧ w1.cell? ⟨w.heap.size, 1, none⟩ = some (.int .i64 k) ∧ w1.cell? ⟨w.heap.size, 2, none⟩ = some (.int .i64 a) ∧ w1.cell? ⟨w.heap.size, 3, none⟩ = some (.int .i64 b) ∧ w1.cell? ⟨w.heap.size, 4, none⟩ = some (.int .i64 c) ∧ w1.cell? ⟨w.heap.size, 5, none⟩ = some (.int .i64 d) ∧ w1.cell? ⟨w.heap.size, 6, none⟩ = some (.int .i64 n) ∧ w1.cell? ⟨w.heap.size, 7, none⟩ = some (.int .i64 m))
        (first | exact ⟨hc0, hc1, hc2, hc3, hc4, hc5, hc6, hc7⟩ | exact ⟨HO7.out.c0, HO7.out.c1, HO7.out.c2, HO7.out.c3, HO7.out.c4, HO7.out.c5, HO7.out.c6, HO7.out.c7⟩ | exact ⟨HO8.out.c0, HO8.out.c1, HO8.out.c2, HO8.out.c3, HO8.out.c4, HO8.out.c5, HO8.out.c6, HO8.out.c7⟩)
        (first
          | (go_at_call 22; go_loud (refine (HFd.out _).mono ?_); go_loud (rintro e w7 ⟨rfl, hb⟩; have hb := (Below.refl wr.heap.size wr).drew.trans hb; have HO7 := Lib.hid (hO.out.below hb); have HB7 := Lib.hid (bbase hB.out hb); have HT7 := Lib.hid (hT.out.on hb); clear hb))
          | (go_at_call 32; go_loud (refine (HFI.out _ HT7.out).mono ?_); go_loud (rintro e w8 ⟨rfl, hb⟩; have HO8 := Lib.hid (HO7.out.below hb); have HB8 := Lib.hid (bbase HB7.out hb); have HT8 := Lib.hid (HT7.out.on hb); clear hb)))
      have HSt2 := HSt.out
      rw [← HSt2]
      clear hz1 hz1c hz2b hz2c hc0 hc1 hc2 hc3 hc4 hc5 hc6 hc7 HO7 HB7 HT7 hO hB hT HFd HFI HSt HSt2
      go_wp2_with fail
      go_roundw
      case rel => exact ⟨q + 1, by omega, by go_num, by rw [HS2.out], by rw [← HS2.out]; exact HNx, HO8, HB8, HT8⟩
      case measure => simp [intOf]; omega
    · obtain rfl : q = u.size := by omega
      have hfin : TP (2 + u.size) = t := HTx.out.symm
      rw [hfin]
      clear hfin
      go_wp2_with fail
      go_ret
      exact ⟨rfl, hB.out⟩
end Go.Proofs.YtchbkceconlbkaaGreatDoor
