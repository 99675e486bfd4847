/- op.Text: an operation's text. -/
import Derived.Test.YtchbkceconlbkaaGreatDoorOpValid
import Derived.Test.YtchbkceconlbkaaGreatDoorOwnS
import Derived.Lib.ItoaLen
namespace Go.Proofs.YtchbkceconlbkaaGreatDoor
open Go Go.RowKit
set_option linter.unusedSimpArgs false
set_option linter.unusedVariables false

/-- The place of a letter among the letters of the fields. -/
def letterIx (c : UInt8) : Nat := (Lib.indexByte lettersB.data.toList c).toNat
def wordsT (id k a b c d n m : Int) : List ByteArray := itoaB id :: nameB k :: (usesB k.toNat).data.toList.map (fun q => itoaB (fieldAt a b c d n m (letterIx q)))
def textT (id k a b c d n m : Int) : ByteArray := ⟨(Lib.join ((wordsT id k a b c d n m).map (·.data.toList)) [32]).toArray⟩
def textB (id k a b c d n m : Int) : ByteArray := if validC id k a b c d n m = 0 then textT id k a b c d n m else ⟨#[]⟩

theorem uses_letters (k : Nat) : ∀ q ∈ (usesB k).data.toList, q.toNat < 128 ∧ letterIx q < 6 ∧ Lib.indexByte lettersB.data.toList q = (letterIx q : Int) := by
  unfold usesB
  split <;> decide
theorem uses_size (k : Nat) : (usesB k).size ≤ 5 := by
  unfold usesB
  split <;> decide
theorem ba_mem (s : ByteArray) (q : Nat) (h : q < s.size) : s[q]'h ∈ s.data.toList := by
  have : s[q]'h = s.data[q]'h := rfl
  rw [this]
  simp
theorem validC_zero {id k a b c d n m : Int} (h : validC id k a b c d n m = 0) : 1 ≤ id ∧ id ≤ 1099511627776 ∧ isK k = true ∧ ∀ j, j < 6 → fieldBad k j (fieldAt a b c d n m j) = false := by
  unfold validC at h
  split at h
  · omega
  · split at h
    · omega
    · split at h
      · omega
      · rename_i h1 h2 h3
        refine ⟨by omega, by omega, by simpa using h2, fun j hj => ?_⟩
        rw [Bool.not_eq_true, List.any_eq_false] at h3
        have := h3 j (by simpa using hj)
        simpa using this
theorem fieldBad_bounds {k x : Int} {j : Nat} (h : fieldBad k j x = false) : 0 ≤ x ∧ x ≤ 1000000000000000 := by
  simp only [fieldBad, Bool.or_eq_false_iff, decide_eq_false_iff_not] at h
  have h2 : mostI j ≤ 1000000000000000 := by unfold mostI; split <;> decide
  omega
theorem wordB_size (k : Nat) : (wordB k).size ≤ 10 := by
  unfold wordB
  split <;> decide
theorem nameB_size (k : Int) : (nameB k).size ≤ 10 := by
  unfold nameB
  split
  · exact wordB_size _
  · decide
theorem lens_le (L : List (List UInt8)) (h : ∀ x ∈ L, x.length ≤ 21) : Lib.lens L ≤ 21 * L.length := by
  induction L with
  | nil => simp [Lib.lens]
  | cons x L ih =>
    have h1 := h x (by simp)
    have h2 := ih (fun y hy => h y (by simp [hy]))
    simp only [Lib.lens, List.map_cons, List.sum_cons, List.length_cons] at h2 ⊢
    omega
theorem itoaB_size {n : Int} (h0 : -9223372036854775808 ≤ n) (h1 : n ≤ 9223372036854775807) : (itoaB n).data.toList.length ≤ 21 := by
  simp only [itoaB]
  exact Lib.itoa_length_le n h0 h1
theorem text_len {id k a b c d n m : Int} (h : validC id k a b c d n m = 0) : (Lib.join ((wordsT id k a b c d n m).map (·.data.toList)) [32]).length ≤ 140737488355328 := by
  obtain ⟨h1, h2, h3, h4⟩ := validC_zero h
  have hw : (wordsT id k a b c d n m).map (·.data.toList) = (itoaB id).data.toList :: (nameB k).data.toList :: ((usesB k.toNat).data.toList.map (fun q => itoaB (fieldAt a b c d n m (letterIx q)))).map (·.data.toList) := rfl
  rw [hw, Lib.join_length]
  have hl : (usesB k.toNat).data.toList.length ≤ 5 := uses_size k.toNat
  have := lens_le ((itoaB id).data.toList :: (nameB k).data.toList :: ((usesB k.toNat).data.toList.map (fun q => itoaB (fieldAt a b c d n m (letterIx q)))).map (·.data.toList)) (by
    intro x hx
    simp only [List.mem_cons, List.mem_map] at hx
    rcases hx with rfl | rfl | ⟨_, ⟨q, hq, rfl⟩, rfl⟩
    · exact itoaB_size (by omega) (by omega)
    · have := nameB_size k
      exact Nat.le_trans this (by decide)
    · obtain ⟨_, hq2, _⟩ := uses_letters k.toNat q hq
      have := fieldBad_bounds (h4 _ hq2)
      exact itoaB_size (by omega) (by omega))
  simp only [List.length_cons, List.length_map, List.length_nil] at this ⊢
  omega

/-- The eight cells of an operation in a block. -/
structure OpAt (w : World) (g : Nat) (id k a b c d n m : Int) : Prop where
  c0 : w.cell? ⟨g, 0, none⟩ = some (.int .i64 id)
  c1 : w.cell? ⟨g, 1, none⟩ = some (.int .i64 k)
  c2 : w.cell? ⟨g, 2, none⟩ = some (.int .i64 a)
  c3 : w.cell? ⟨g, 3, none⟩ = some (.int .i64 b)
  c4 : w.cell? ⟨g, 4, none⟩ = some (.int .i64 c)
  c5 : w.cell? ⟨g, 5, none⟩ = some (.int .i64 d)
  c6 : w.cell? ⟨g, 6, none⟩ = some (.int .i64 n)
  c7 : w.cell? ⟨g, 7, none⟩ = some (.int .i64 m)
theorem OpAt.lt {w : World} {g : Nat} {id k a b c d n m : Int} (h : OpAt w g id k a b c d n m) : g < w.heap.size := World.block_lt_of_cell? w ⟨g, 0, none⟩ h.c0
theorem OpAt.keep {S : Nat → Prop} {w w' : World} {g : Nat} {id k a b c d n m : Int} (h : OpAt w g id k a b c d n m) (q : Keep S w w') (hs : ¬ S g) : OpAt w' g id k a b c d n m :=
  ⟨(q.cell (x := ⟨g, 0, none⟩) h.lt hs).trans h.c0, (q.cell (x := ⟨g, 1, none⟩) h.lt hs).trans h.c1, (q.cell (x := ⟨g, 2, none⟩) h.lt hs).trans h.c2, (q.cell (x := ⟨g, 3, none⟩) h.lt hs).trans h.c3, (q.cell (x := ⟨g, 4, none⟩) h.lt hs).trans h.c4, (q.cell (x := ⟨g, 5, none⟩) h.lt hs).trans h.c5, (q.cell (x := ⟨g, 6, none⟩) h.lt hs).trans h.c6, (q.cell (x := ⟨g, 7, none⟩) h.lt hs).trans h.c7⟩
theorem OpAt.below {w w' : World} {g : Nat} {id k a b c d n m : Int} (h : OpAt w g id k a b c d n m) (q : Below w.heap.size w w') : OpAt w' g id k a b c d n m :=
  ⟨(q.cell (p := ⟨g, 0, none⟩) h.lt).trans h.c0, (q.cell (p := ⟨g, 1, none⟩) h.lt).trans h.c1, (q.cell (p := ⟨g, 2, none⟩) h.lt).trans h.c2, (q.cell (p := ⟨g, 3, none⟩) h.lt).trans h.c3, (q.cell (p := ⟨g, 4, none⟩) h.lt).trans h.c4, (q.cell (p := ⟨g, 5, none⟩) h.lt).trans h.c5, (q.cell (p := ⟨g, 6, none⟩) h.lt).trans h.c6, (q.cell (p := ⟨g, 7, none⟩) h.lt).trans h.c7⟩
theorem opAt_new (w : World) (id k a b c d n m : Int) (T : TypeId) : OpAt (w.alloc (Obj.cells #[.int .i64 id, .int .i64 k, .int .i64 a, .int .i64 b, .int .i64 c, .int .i64 d, .int .i64 n, .int .i64 m] T)) w.heap.size id k a b c d n m :=
  ⟨by go_simp, by go_simp, by go_simp, by go_simp, by go_simp, by go_simp, by go_simp, by go_simp⟩
theorem infoStr : (Tryz.prog.info? 9).map (fun i => (i.zero, i.size, i.bytes)) = some (some (.string ⟨#[]⟩), 1, 16) := by kernel_rfl
theorem valV_ne {p : Nat → Addr} {c : Nat} (h : c ≠ 0) : ∃ a, valV p c = .iface 146 (.pointer (some a)) := by
  match c, h with
  | 1, _ => exact ⟨p 2, rfl⟩
  | c + 2, _ => exact ⟨p 10, rfl⟩
theorem append_getD {l : List UInt8} {q : Nat} (h : q < l.length) (f : UInt8 → ByteArray) : (l.take (q + 1)).map f = (l.take q).map f ++ [f (l[q]'h)] := by
  rw [List.take_add_one, List.getElem?_eq_getElem h, List.map_append]
  rfl

set_option maxHeartbeats 16000000 in
set_option maxRecDepth 100000 in
theorem text_calls {B : Nat} {p : Nat → Addr} {w : World} (hE : Errs (List.range 21) B p w) (hT : OpW B w) (id k a b c d n m : Int) :
    Calls Tryz.prog 13 #[opV id k a b c d n m] w fun e w' => e = .returned (.string (textB id k a b c d n m)) ∧ Below w.heap.size w w' := by
  have HW0 : Below w.heap.size w (w.alloc (Obj.cells #[.int .i64 id, .int .i64 k, .int .i64 a, .int .i64 b, .int .i64 c, .int .i64 d, .int .i64 n, .int .i64 m] 23)) := (Below.refl _ _).alloc (Nat.le_refl _) _
  have HO := Lib.hid (opAt_new w id k a b c d n m 23)
  obtain ⟨W1, hW1⟩ : ∃ W1, W1 = w.alloc (Obj.cells #[.int .i64 id, .int .i64 k, .int .i64 a, .int .i64 b, .int .i64 c, .int .i64 d, .int .i64 n, .int .i64 m] 23) := ⟨_, rfl⟩
  rw [← hW1] at HO HW0
  have HV := Lib.hid (valid_calls (hE.below (HW0.mono hE.size)) (hT.on HW0) id k a b c d n m)
  have hBw := hT.size
  have HT := Lib.hid (hT.on HW0)
  have HB0 := Lib.hid HW0
  have hsz : w.heap.size < W1.heap.size := by rw [hW1]; simp
  have HQ := Lib.hid hW1
  clear hE hT HW0 hW1
  by_cases hv : validC id k a b c d n m = 0
  · have htx : textB id k a b c d n m = textT id k a b c d n m := if_pos hv
    have HZ := Lib.hid (validC_zero hv)
    have HL := Lib.hid (text_len hv)
    rw [htx]
    rw [hv, show valV p 0 = .nilIface from rfl] at HV
    clear htx hv
    have hk : 1 ≤ k ∧ k ≤ 16 := by simpa [isK] using HZ.out.2.2.1
    have HK := Lib.hid hk
    clear hk
    go_enter Tryz.func13, Tryz.ntmps13
    go_wp2_with fail
    rw [← HQ.out]
    refine HV.out.mono ?_
    rintro e w2 ⟨rfl, hb⟩
    have HO := Lib.hid (HO.out.below hb)
    have HT := Lib.hid (HT.out.on hb)
    have HB := Lib.hid (bbase HB0.out hb)
    have hsz2 : w.heap.size < w2.heap.size := by have := hb.size; omega
    clear hb hsz HV HQ HB0
    have hbd : Below w2.heap.size w2 w2.drew := (Below.refl _ _).drew
    have HO2 := Lib.hid (HO.out.below hbd)
    have HT2 := Lib.hid (HT.out.on hbd)
    have HB2 := Lib.hid (bbase HB.out hbd)
    clear HO HT HB hbd
    have hc0 := HO2.out.c0
    have hc1 := HO2.out.c1
    have HFI := Lib.hid (fun (w' : World) (h : OpW B w') => formatInt_calls h id (by have := HZ.out.1; omega) (by have := HZ.out.2.1; omega))
    have HNM := Lib.hid (fun (w' : World) (h : OpW B w') => name_calls h k)
    go_wp2_with fail
    go_region_held3 (fun wq => wq.cell? ⟨w.heap.size, 0, none⟩ = some (.int .i64 id) ∧ wq.cell? ⟨w.heap.size, 1, none⟩ = some (.int .i64 k))
      (first | exact ⟨HO2.out.c0, HO2.out.c1⟩ | exact ⟨(HO2.out.below ((Below.refl _ _).alloc (Nat.le_refl _) _)).c0, (HO2.out.below ((Below.refl _ _).alloc (Nat.le_refl _) _)).c1⟩)
      (first
        | (go_at_call 32; go_loud (refine (HFI.out _ HT2.out).mono ?_); go_loud (rintro e w5 ⟨rfl, hb⟩; have hs5 := hb.size; have HO2 := Lib.hid (HO2.out.below hb); have HT2 := Lib.hid (HT2.out.on hb); have HB2 := Lib.hid (bbase HB2.out hb)))
        | (go_at_call 9; go_loud (refine (HNM.out _ HT2.out).mono ?_); go_loud (rintro e w6 ⟨rfl, hb⟩; have hs6 := hb.size; have HO2 := Lib.hid (HO2.out.below hb); have HT2 := Lib.hid (HT2.out.on hb); have HB2 := Lib.hid (bbase HB2.out hb))))
    go_wp2_with fail
    have hal : Below w6.heap.size w6 (w6.alloc (Obj.cells #[.string (itoaB id), .string (nameB k)] 9)) := (Below.refl _ _).alloc (Nat.le_refl _) _
    have HO := Lib.hid (HO2.out.below hal)
    have HT := Lib.hid (HT2.out.on hal)
    have HB := Lib.hid (bbase HB2.out hal)
    have hsw6 : w.heap.size < w6.heap.size := by have := HO2.out.lt; omega
    have hOwn : OwnS 9 (w.heap.size + 1) (w6.alloc (Obj.cells #[.string (itoaB id), .string (nameB k)] 9)) (.slice (some ⟨w6.heap.size, 0, none⟩) 2 2) [itoaB id, nameB k] := OwnS.build _ (by omega) _ (by simp) _ rfl
    obtain ⟨v, hv⟩ : ∃ v, v = Value.slice (some ⟨w6.heap.size, 0, none⟩) 2 2 := ⟨_, rfl⟩
    rw [← hv] at hOwn ⊢
    have hvb : ∀ g, v.ownBlock = some g → g = w6.heap.size := fun g hg => by rw [hv] at hg; simpa [Value.ownBlock] using hg.symm
    have HOwn := Lib.hid hOwn
    have hsal : w6.heap.size < (w6.alloc (Obj.cells #[.string (itoaB id), .string (nameB k)] 9)).heap.size := by simp
    clear hv hOwn hal HO2 HT2 HB2 hc0 hc1 HFI HNM
    generalize w6.alloc (Obj.cells #[.string (itoaB id), .string (nameB k)] 9) = w7 at HO HT HB HOwn hsal ⊢
    refine (uses_calls HT.out HK.out.1 HK.out.2).mono ?_
    rintro e w8 ⟨rfl, hb⟩
    have HO := Lib.hid (HO.out.below hb)
    have HT := Lib.hid (HT.out.on hb)
    have HB := Lib.hid (bbase HB.out hb)
    have HOwn := Lib.hid (HOwn.out.below hb)
    have hs8 : w6.heap.size < w8.heap.size := by have := hb.size; omega
    have hlet := uses_letters k.toNat
    have hul := uses_size k.toNat
    have HTX : Hid (textT id k a b c d n m = ⟨(Lib.join ((itoaB id :: nameB k :: (usesB k.toNat).data.toList.map (fun q => itoaB (fieldAt a b c d n m (letterIx q)))).map (·.data.toList)) blankB.data.toList).toArray⟩) := rfl
    have HLN : Hid ((Lib.join ((itoaB id :: nameB k :: (usesB k.toNat).data.toList.map (fun q => itoaB (fieldAt a b c d n m (letterIx q)))).map (·.data.toList)) blankB.data.toList).length ≤ 140737488355328) := HL.out
    generalize usesB k.toNat = u at hlet hul HTX HLN ⊢
    have HLet := Lib.hid hlet
    clear hb hlet HL hsal
    have hal : Below w8.heap.size w8 (w8.alloc (Obj.stringIter u 0)) := (Below.refl _ _).alloc (Nat.le_refl _) _
    have HO0 := Lib.hid (HO.out.below hal)
    have HT0 := Lib.hid (HT.out.on hal)
    have HB0 := Lib.hid (bbase HB.out hal)
    have HOwn0 := Lib.hid (HOwn.out.below hal)
    have hit0 := w8.iter_heap u 0
    change (w8.alloc (Obj.stringIter u 0)).heap[w8.heap.size]? = _ at hit0
    have hw8i : w8.iter u 0 = w8.alloc (Obj.stringIter u 0) := rfl
    have hs9 : w8.heap.size < (w8.alloc (Obj.stringIter u 0)).heap.size := by simp
    obtain ⟨w9, hw9⟩ : ∃ w9, w9 = w8.alloc (Obj.stringIter u 0) := ⟨_, rfl⟩
    rw [← hw9] at HO0 HT0 HB0 HOwn0 hit0 hw8i hs9
    clear hal HO HT HB HOwn hw9
    go_wp2_with fail
    clear hw8i
    have hib : w.heap.size < w8.heap.size := by omega
    have hvb : ∀ g, v.ownBlock = some g → g ≠ w8.heap.size := fun g hg => by have := hvb g hg; omega
    generalize w8.heap.size = ib at hit0 hs9 hs8 hib hvb ⊢
    go_loopw [3] (fun v wr => ∃ q : Nat, q ≤ u.size ∧ Hid (OwnS 9 (w.heap.size + 1) wr v (itoaB id :: nameB k :: (u.data.toList.take q).map (fun q => itoaB (fieldAt a b c d n m (letterIx q))))) ∧ Hid (∀ g, v.ownBlock = some g → g ≠ ib) ∧ wr.heap[ib]? = some (.stringIter u q) ∧ Hid (OpAt wr w.heap.size id k a b c d n m) ∧ Hid (OpW B wr) ∧ Hid (Below w.heap.size w wr) ∧ ib < wr.heap.size) (fun _ wr => u.size - wr.iterPos ib)
    case atStart => exact ⟨0, by omega, HOwn0, hvb, hit0, HO0, HT0, HB0, hs9⟩
    case round =>
      obtain ⟨q, hq, hOwn, hvb, hit, hO, hT, hB, hsr⟩ := hrel
      clear HOwn0 hit0 HO0 HT0 HB0 hs9
      by_cases hqu : q < u.size
      · obtain ⟨hc1, hc2, hc3⟩ := HLet.out _ (ba_mem u q hqu)
        have hnx : ∀ ty, (Instr.next (.pointer (some ⟨ib, 0, none⟩)) true ty).run Tryz.prog wr = _ := fun ty => run_next_at hit ty hqu hc1
        have HW : Hid (itoaB id :: nameB k :: (u.data.toList.take (q + 1)).map (fun q => itoaB (fieldAt a b c d n m (letterIx q))) = (itoaB id :: nameB k :: (u.data.toList.take q).map (fun q => itoaB (fieldAt a b c d n m (letterIx q)))) ++ [itoaB (fieldAt a b c d n m (letterIx (u[q]'hqu)))]) := by rw [Hid, append_getD hqu]; rfl
        have hlen : (itoaB id :: nameB k :: (u.data.toList.take q).map (fun q => itoaB (fieldAt a b c d n m (letterIx q)))).length ≤ 1000000 := by
          simp only [List.length_cons, List.length_map, List.length_take]; omega
        have Hlen := Lib.hid hlen
        clear hlen
        have HPos : Hid (wr.iterPos ib = q) := by simp [Hid, World.iterPos, hit]
        generalize itoaB id :: nameB k :: (u.data.toList.take q).map (fun q => itoaB (fieldAt a b c d n m (letterIx q))) = xs at HW Hlen hOwn
        generalize hce : u[q]'hqu = ch at hc1 hc2 hc3 hnx HW
        clear hce
        have hib2 : Hid ((iterAt wr ib u (q + 1)).heap[ib]? = some (.stringIter u (q + 1))) := iterAt_heap hsr u (q + 1)
        have hkp := iterAt_keep wr ib u (q + 1)
        generalize iterAt wr ib u (q + 1) = wi at hnx hib2 hkp
        have hwx : ib < wi.heap.size := by have := hkp.size; omega
        have HOi := Lib.hid (hO.out.keep hkp (by omega))
        have HOwi := Lib.hid (hOwn.out.kept hkp hvb.out)
        have hbi : Below w.heap.size wr wi := hkp.below (by omega) (fun j hj h => by omega)
        have HTi : Hid (OpW B wi) := hT.out.below (hbi.mono hBw)
        have HBi := Lib.hid (hB.out.trans hbi)
        have hvb := hvb.out
        clear hkp hO hT hB hbi hOwn hit hsr
        have HIB := Lib.hid (fun (w' : World) => indexByte_calls w' lettersB (ch.toNat : Int))
        rw [show ((ch.toNat : Int)).toNat.toUInt8 = ch by simp, hc3] at HIB
        unfold lettersB at HIB
        have hxb := fieldBad_bounds (HZ.out.2.2.2 _ hc2)
        have HFI := Lib.hid (fun (w' : World) (h : OpW B w') => formatInt_calls h (fieldAt a b c d n m (letterIx ch)) (by omega) (by omega))
        clear hc3 hxb
        generalize hcn : ch.toNat = cn at hc1 hnx HIB
        clear hcn
        have hwr : IntKind.u8.wrap (cn : Int) = cn := by
          have := Int.emod_eq_of_lt (a := (cn : Int)) (b := 256) (by omega) (by omega)
          first | simpa [IntKind.wrap] using this | (simp [IntKind.wrap, IntKind.signed, IntKind.bits, this])
        have hcnn : (0 : Int) ≤ (cn : Int) := by omega
        have hc0 := HOi.out.c0; have hc1' := HOi.out.c1; have hc2' := HOi.out.c2; have hc3' := HOi.out.c3; have hc4' := HOi.out.c4; have hc5' := HOi.out.c5; have hc6' := HOi.out.c6; have hc7' := HOi.out.c7
        go_wp2_with fail
        clear hc0 hc1' hc2' hc3' hc4' hc5' hc6' hc7' hnx
        refine (fields_calls _ _ _ _ _ _ _ _ _).mono ?_
        rintro e w10 ⟨g, rfl, hg1, hg2, hb, hcell⟩
        have hcl := hcell _ hc2
        clear hcell
        have HIT2 : Hid (w10.heap[ib]? = some (.stringIter u (q + 1))) := (hb.block ib hwx).trans hib2.out
        have HOi := Lib.hid (HOi.out.below hb)
        have HTi := Lib.hid (HTi.out.on hb)
        have HBi := Lib.hid (bbase HBi.out hb)
        have HOwi := Lib.hid (HOwi.out.below hb)
        have hwx : ib < w10.heap.size := by have := hb.size; omega
        clear hb hib2 hg1
        generalize fieldAt a b c d n m (letterIx ch) = x at hcl HFI HW
        generalize letterIx ch = ix at hcl HIB hc2
        go_wp2_with fail
        refine (HIB.out _).mono ?_
        rintro e _ ⟨rfl, rfl⟩
        go_wp2_with fail
        refine (HFI.out _ HTi.out).mono ?_
        rintro e w11 ⟨rfl, hb⟩
        have HIT2 := Lib.hid ((hb.block ib hwx).trans HIT2.out)
        have HOi := Lib.hid (HOi.out.below hb)
        have HTi := Lib.hid (HTi.out.on hb)
        have HBi := Lib.hid (bbase HBi.out hb)
        have HOwi := Lib.hid (HOwi.out.below hb)
        have hwx : ib < w11.heap.size := by have := hb.size; omega
        clear hb hcl hg2 HFI HIB
        have hal : Below w11.heap.size w11 (w11.alloc (Obj.cells #[.string (itoaB x)] 9)) := (Below.refl _ _).alloc (Nat.le_refl _) _
        have HIT2 := Lib.hid ((hal.block ib hwx).trans HIT2.out)
        have HOi := Lib.hid (HOi.out.below hal)
        have HTi := Lib.hid (HTi.out.on hal)
        have HBi := Lib.hid (bbase HBi.out hal)
        have HOwi := Lib.hid (HOwi.out.below hal)
        have hcz : (w11.alloc (Obj.cells #[.string (itoaB x)] 9)).cell? ⟨w11.heap.size, 0, none⟩ = some (.string (itoaB x)) := by go_simp
        have hwx2 : ib < (w11.alloc (Obj.cells #[.string (itoaB x)] 9)).heap.size := by simp; omega
        have hbs : w.heap.size + 1 ≤ (w11.alloc (Obj.cells #[.string (itoaB x)] 9)).heap.size := by simp; omega
        have Hcz := Lib.hid hcz
        have Hbs := Lib.hid hbs
        clear hal hcz hbs
        go_wp2_with (at_builtin; refine wpList_appS rfl _ _ 25 rfl 9 Tryz.underlying25 infoStr (w.heap.size + 1) _ _ rfl HOwi.out w11.heap.size 1 (itoaB x) rfl Hcz.out Hlen.out Hbs.out ?_)
        intro v' w12 ho3 hk3 hv3
        have HOw3 : Hid (OwnS 9 (w.heap.size + 1) w12 v' (itoaB id :: nameB k :: (u.data.toList.take (q + 1)).map (fun q => itoaB (fieldAt a b c d n m (letterIx q))))) := by rw [HW.out]; exact ho3
        have hblk := HOwi.out.block
        have hvb3 : Hid (∀ g, v'.ownBlock = some g → g ≠ ib) := fun g hg => by
          rcases hv3 with h | h
          · exact hvb g (h ▸ hg)
          · rw [h] at hg
            cases hg
            omega
        have HIT3 : w12.heap[ib]? = some (.stringIter u (q + 1)) := (hk3.block ib hwx2 (fun h => hvb ib h rfl)).trans HIT2.out
        have HO3 := Lib.hid (HOi.out.keep hk3 (fun h => by have := (hblk _ h).1; omega))
        have hbel : Below w.heap.size (w11.alloc (Obj.cells #[.string (itoaB x)] 9)) w12 := hk3.below (by have := Hbs.out; omega) (fun j hj h => by have := (hblk _ h).1; omega)
        have HT3 := Lib.hid (HTi.out.below (hbel.mono hBw))
        have HB3 := Lib.hid (HBi.out.trans hbel)
        have hs12 : ib < w12.heap.size := by have := hk3.size; omega
        clear ho3 hk3 hv3 hblk hbel HOwi HIT2 HOi HTi HBi hvb
        go_wp2_with fail
        go_roundw
        case rel => exact ⟨q + 1, by omega, HOw3, hvb3, HIT3, HO3, HT3, HB3, hs12⟩
        case measure => rw [HPos.out, show w12.iterPos ib = q + 1 by simp [World.iterPos, HIT3]]; omega
      · have hqe : q = u.size := by omega
        have hnx : ∀ ty, (Instr.next (.pointer (some ⟨ib, 0, none⟩)) true ty).run Tryz.prog wr = _ := fun ty => run_next_stop hit ty hqu
        have hOw := hOwn.out
        rw [hqe, List.take_of_length_le (Nat.le_refl u.size)] at hOw
        obtain ⟨g, cap, rfl, hg1, hg2, hlc, hcm, hcells⟩ := hOw.cells (by simp)
        have HJ := Lib.hid (join_calls g 0 cap _ blankB (fun j x hj => by rw [Nat.zero_add]; exact hcells j x hj) hg2 (by have e : u.data.toList.length = u.size := rfl; simp only [List.length_cons, List.length_map]; omega) hlc HLN.out)
        rw [← HTX.out] at HJ
        generalize (itoaB id :: nameB k :: List.map (fun q => itoaB (fieldAt a b c d n m (letterIx q))) u.data.toList).length = nl at *
        have HBf := hB
        clear hOw hcells hOwn hvb hlc HTX HLN
        go_wp2_with fail
        refine HJ.out.mono ?_
        rintro e w13 ⟨rfl, hb⟩
        have HBf := bbase HBf.out hb
        go_wp2_with fail
        go_ret
        exact ⟨rfl, HBf⟩
  · have htx : textB id k a b c d n m = ⟨#[]⟩ := if_neg hv
    obtain ⟨ad, had⟩ := valV_ne (p := p) hv
    rw [had] at HV
    rw [htx]
    clear htx hv had
    go_enter Tryz.func13, Tryz.ntmps13
    go_wp2_with fail
    rw [← HQ.out]
    refine HV.out.mono ?_
    rintro e w2 ⟨rfl, hb⟩
    have HB := Lib.hid (bbase HB0.out hb)
    go_wp2_with fail
    go_ret
    exact ⟨rfl, HB.out⟩
end Go.Proofs.YtchbkceconlbkaaGreatDoor
