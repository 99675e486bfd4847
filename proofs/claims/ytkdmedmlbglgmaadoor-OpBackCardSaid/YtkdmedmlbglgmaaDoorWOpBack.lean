/- The walk of pledgelaw25.OpBack: it returns true, and writes nothing that was there. (Written by gen_opback.py.) -/
import Derived.Test.YtkdmedmlbglgmaaDoorSameOp
import Derived.Test.YtkdmedmlbglgmaaDoorOpRead
import Derived.Test.YtkdmedmlbglgmaaDoorOpParse
import Derived.Test.YtkdmedmlbglgmaaDoorOpFirst
import Derived.Test.YtkdmedmlbglgmaaDoorOwnS
import Derived.Test.YtkdmedmlbglgmaaDoorNum
import Derived.Deep.DeepCutAuto
namespace Go.Proofs.YtkdmedmlbglgmaaDoor
open Go Go.RowKit
set_option linter.unusedSimpArgs false
set_option linter.unusedVariables false

/-- The first bytes of bytes. -/
theorem RdB.take {w : World} {g off len cap q : Nat} {bs : List Int} (h : RdB w (.slice (some ⟨g, off, none⟩) len cap) bs) (hq : q ≤ bs.length) : RdB w (.slice (some ⟨g, off, none⟩) q cap) (bs.take q) := by
  rcases h with ⟨h, _⟩ | ⟨g', off', cap', h0, h1, h2, h3, h4⟩
  · cases h
  · simp only [Value.slice.injEq, Option.some.injEq, Addr.mk.injEq] at h0
    obtain ⟨⟨rfl, rfl, _⟩, rfl, rfl⟩ := h0
    have hl : (bs.take q).length = q := by rw [List.length_take]; omega
    refine .inr ⟨g, off, cap, by rw [hl], by omega, h2, h3, fun i hi => ?_⟩
    rw [hl] at hi
    rw [h4 i (by omega)]
    simp [List.getD, List.getElem?_take, hi]
theorem bytesI_take (l : List UInt8) (q : Nat) : bytesI (l.take q) = (bytesI l).take q := by simp [bytesI]
theorem bytesI_len (l : List UInt8) : (bytesI l).length = l.length := by simp [bytesI]
theorem extract_list (t : ByteArray) (f i : Nat) : (t.extract f i).data.toList = (t.data.toList.drop f).take (i - f) := by
  rw [ByteArray.data_extract, Array.toList_extract]
theorem splitA_len : ∀ (l cur x : List UInt8), x ∈ splitA l cur → x.length ≤ cur.length + l.length
  | [], cur, x, h => by
    simp only [splitA, List.mem_singleton] at h
    subst h
    simp
  | c :: r, cur, x, h => by
    rw [splitA] at h
    split at h
    · rcases List.mem_cons.1 h with rfl | h
      · simp
      · have := splitA_len r [] x h
        simp only [List.length_nil, List.length_cons] at this ⊢
        omega
    · have := splitA_len r _ x h
      simp only [List.length_append, List.length_cons, List.length_nil] at this ⊢
      omega
theorem sameO_refl (id k a b c d n m : Int) : sameO id k a b c d n m id k a b c d n m = true := decide_eq_true rfl
theorem numsB_pos (id : Int) (l : List Int) : 0 < (numsB (id :: l)).length := by
  rw [numsB_cons, List.length_append]
  have := List.length_pos_iff.2 (encZ_ne (zz id))
  omega
theorem ErrIs.cut {p : Nat → Addr} {w : World} {er : Value} {e q : Nat} (h : ErrIs p w er (e, true, q)) : ∃ eb, er = atV eb ∧ e ≠ 0 := by
  rcases h with ⟨h, _⟩ | ⟨k, _, h, _⟩ | ⟨k, q', eb, _, h0, h, _⟩
  · have := congrArg (fun t => t.2.1) h
    cases this
  · have := congrArg (fun t => t.2.1) h
    cases this
  · refine ⟨eb, h, ?_⟩
    have := congrArg Prod.fst h0
    simp only at this
    omega
theorem ErrIs.fine {p : Nat → Addr} {w : World} {er : Value} (h : ErrIs p w er (0, false, 0)) : er = .nilIface := by
  rcases h with ⟨_, h⟩ | ⟨k, _, h, _⟩ | ⟨k, q', eb, _, h, _⟩
  · exact h
  · have := congrArg Prod.fst h
    simp only at this
    omega
  · have := congrArg (fun t => t.2.1) h
    cases this
theorem ErrIs.shape {p : Nat → Addr} {w : World} {er : Value} {q : Nat} (h : ErrIs p w er (102, true, q)) : ∃ eb, er = atV eb ∧ AtCells p w eb q 1 := by
  rcases h with ⟨h, _⟩ | ⟨k, _, h, _⟩ | ⟨k, q', eb, _, hf, h, hA⟩
  · cases h
  · have := congrArg (fun t => t.2.1) h
    cases this
  · simp only [Prod.mk.injEq] at hf
    obtain ⟨h1, _, rfl⟩ := hf
    obtain rfl : k = 1 := by omega
    exact ⟨eb, h, hA⟩

set_option maxHeartbeats 16000000 in
set_option maxRecDepth 100000 in
theorem walk_OpBack {p : Nat → Addr} {w : World} (hE : Errs (List.range 21) w.heap.size p w) (hT : ParW w.heap.size w) (id k a b c d n m id' k' a' b' c' d' n' m' cut : Int) (l0 : -9223372036854775808 ≤ id) (u0 : id ≤ 9223372036854775807) (l1 : -9223372036854775808 ≤ k) (u1 : k ≤ 9223372036854775807) (l2 : -9223372036854775808 ≤ a) (u2 : a ≤ 9223372036854775807) (l3 : -9223372036854775808 ≤ b) (u3 : b ≤ 9223372036854775807) (l4 : -9223372036854775808 ≤ c) (u4 : c ≤ 9223372036854775807) (l5 : -9223372036854775808 ≤ d) (u5 : d ≤ 9223372036854775807) (l6 : -9223372036854775808 ≤ n) (u6 : n ≤ 9223372036854775807) (l7 : -9223372036854775808 ≤ m) (u7 : m ≤ 9223372036854775807) (lp0 : -9223372036854775808 ≤ id') (up0 : id' ≤ 9223372036854775807) (lp1 : -9223372036854775808 ≤ k') (up1 : k' ≤ 9223372036854775807) (lp2 : -9223372036854775808 ≤ a') (up2 : a' ≤ 9223372036854775807) (lp3 : -9223372036854775808 ≤ b') (up3 : b' ≤ 9223372036854775807) (lp4 : -9223372036854775808 ≤ c') (up4 : c' ≤ 9223372036854775807) (lp5 : -9223372036854775808 ≤ d') (up5 : d' ≤ 9223372036854775807) (lp6 : -9223372036854775808 ≤ n') (up6 : n' ≤ 9223372036854775807) (lp7 : -9223372036854775808 ≤ m') (up7 : m' ≤ 9223372036854775807) (lc : -9223372036854775808 ≤ cut) (uc : cut ≤ 9223372036854775807) :
    Calls Tryd.prog 7 #[opV id k a b c d n m, opV id' k' a' b' c' d' n' m', .int .i64 cut] w fun e w' => e = .returned (.bool true) ∧ Below w.heap.size w w' := by
  have hb0 : Below w.heap.size w ((w.alloc (Obj.cells #[.int .i64 id, .int .i64 k, .int .i64 a, .int .i64 b, .int .i64 c, .int .i64 d, .int .i64 n, .int .i64 m] 61)).alloc (Obj.cells #[.int .i64 id', .int .i64 k', .int .i64 a', .int .i64 b', .int .i64 c', .int .i64 d', .int .i64 n', .int .i64 m'] 61)) := by (repeat (first | exact Below.refl _ _ | assumption | refine Below.drew ?_ | refine below_many ?_ _ | refine Below.alloc ?_ (by first | (simp; done) | (simp; omega) | omega) _ | refine Below.setCell ?_ (by first | (simp; done) | (simp; omega) | omega) _))
  have hO1 := (opAt_new w id k a b c d n m 61).below ((Below.refl _ _).alloc (Nat.le_refl _) (Obj.cells #[.int .i64 id', .int .i64 k', .int .i64 a', .int .i64 b', .int .i64 c', .int .i64 d', .int .i64 n', .int .i64 m'] 61))
  have hO2 := opAt_new (w.alloc (Obj.cells #[.int .i64 id, .int .i64 k, .int .i64 a, .int .i64 b, .int .i64 c, .int .i64 d, .int .i64 n, .int .i64 m] 61)) id' k' a' b' c' d' n' m' 61
  rw [show (w.alloc (Obj.cells #[.int .i64 id, .int .i64 k, .int .i64 a, .int .i64 b, .int .i64 c, .int .i64 d, .int .i64 n, .int .i64 m] 61)).heap.size = w.heap.size + 1 by simp] at hO2
  have HE := Lib.hid (hE.below (hb0.mono hE.size))
  have HT := Lib.hid (hT.on hb0)
  have HB := Lib.hid hb0
  have HO1 := Lib.hid hO1
  have HO2 := Lib.hid hO2
  clear hb0 hO1 hO2 hE hT l0 u0 l1 u1 l2 u2 l3 u3 l4 u4 l5 u5 l6 u6 l7 u7 lp0 up0 lp1 up1 lp2 up2 lp3 up3 lp4 up4 lp5 up5 lp6 up6 lp7 up7 lc uc
  go_enter Tryd.func7, Tryd.ntmps7
  go_upto_region 1 with fail
  generalize (w.alloc (Obj.cells #[.int .i64 id, .int .i64 k, .int .i64 a, .int .i64 b, .int .i64 c, .int .i64 d, .int .i64 n, .int .i64 m] 61)).alloc (Obj.cells #[.int .i64 id', .int .i64 k', .int .i64 a', .int .i64 b', .int .i64 c', .int .i64 d', .int .i64 n', .int .i64 m'] 61) = W2 at *
  have hs2 : w.heap.size + 1 < W2.heap.size := HO2.out.lt
  go_wp2_with fail
  refine (first25_calls HE.out HT.out.op).mono ?_
  rintro e w3 ⟨rfl, hb⟩
  have HO1 := Lib.hid (HO1.out.below hb)
  have HO2 := Lib.hid (HO2.out.below hb)
  have HB := Lib.hid (bbase HB.out hb)
  have HE := Lib.hid (HE.out.below (hb.mono HE.out.size))
  have HT := Lib.hid (HT.out.on hb)
  have hs3 : w.heap.size + 1 < w3.heap.size := HO2.out.lt
  clear hb hs2
  have x0 := HO1.out.c0; have x1 := HO1.out.c1; have x2 := HO1.out.c2; have x3 := HO1.out.c3; have x4 := HO1.out.c4; have x5 := HO1.out.c5; have x6 := HO1.out.c6; have x7 := HO1.out.c7
  go_wp2_with fail
  refine (opBytes_calls HE.out HT.out.op id k a b c d n m).mono ?_
  rintro e w4 ⟨⟨u4, rfl, hbo, hbn⟩, hb⟩
  have HO1 := Lib.hid (HO1.out.below hb)
  have HO2 := Lib.hid (HO2.out.below hb)
  have HB := Lib.hid (bbase HB.out hb)
  have HE := Lib.hid (HE.out.below (hb.mono HE.out.size))
  have HT := Lib.hid (HT.out.on hb)
  have hs4 : w.heap.size + 1 < w4.heap.size := HO2.out.lt
  have hsb := hb.size
  clear hb hs3 x0 x1 x2 x3 x4 x5 x6 x7
  by_cases hv : validC id k a b c d n m = 0
  case neg =>
    obtain rfl : u4 = .slice none 0 0 := hbn hv
    obtain ⟨ad, had⟩ := valV_ne (p := p) hv
    rw [had]
    clear had hbo hbn hv
    go_wp2_with fail
    go_ret
    exact ⟨rfl, HB.out⟩
  have hown := hbo hv
  have HV := Lib.hid hv
  have HBl := Lib.hid (laid_len hv)
  have HRf := Lib.hid (readF_laid hv)
  have HRc := Lib.hid (readF_cut hv)
  have HRm := Lib.hid (readF_more hv)
  have HTx := Lib.hid (show textB id k a b c d n m = textT id k a b c d n m from if_pos hv)
  have HTs := Lib.hid (text_split hv)
  have HTl := Lib.hid (text_len hv)
  have HWl := Lib.hid (wordsT_length id k a b c d n m)
  have HPw := Lib.hid (parse_words hv)
  have hpos : 0 < (numsB (numsO id k a b c d n m)).length := numsB_pos _ _
  have HSame := Lib.hid (fun (h' : validC id' k' a' b' c' d' n' m' = 0) => And.intro (bytes_same hv h') (text_same hv h'))
  rw [hv, show valV p 0 = .nilIface from rfl]
  have HRb := Lib.hid hown.rd
  have hblk := World.ownsRow.lt hown
  clear hbo hbn hv hown
  obtain ⟨L, hL⟩ : ∃ L, L = numsB (numsO id k a b c d n m) := ⟨_, rfl⟩
  rw [← hL] at HBl HRf HRc HRm hpos HRb HSame
  clear hL
  have hL80 := HBl.out
  have hrb := HRb.out
  rcases hrb with ⟨_, h0⟩ | ⟨g4, off4, cap4, rfl, hc1, hc2, hg4, _⟩
  · have := congrArg List.length h0
    rw [bytesI_len] at this
    simp at this
    rw [this] at hpos; cases hpos
  rw [bytesI_len] at hc1 HRb ⊢
  unfold maxLen at hc2
  go_wp2_with fail
  refine (readOp_calls HE.out HT.out.op HRb.out (by omega)).mono ?_
  rintro e w5 ⟨⟨er5, rfl, her⟩, hb⟩
  rw [HRf.out.1] at her
  obtain rfl := her.fine
  rw [HRf.out.2]
  clear her
  have HO1 := Lib.hid (HO1.out.below hb)
  have HO2 := Lib.hid (HO2.out.below hb)
  have HB := Lib.hid (bbase HB.out hb)
  have HE := Lib.hid (HE.out.below (hb.mono HE.out.size))
  have HT := Lib.hid (HT.out.on hb)
  have HRb := Lib.hid (HRb.out.below hb)
  clear hb
  have hal : Below w5.heap.size w5 (w5.alloc (Obj.cells #[.int .i64 id, .int .i64 k, .int .i64 a, .int .i64 b, .int .i64 c, .int .i64 d, .int .i64 n, .int .i64 m] 61)) := (Below.refl _ _).alloc (Nat.le_refl _) _
  have HX := Lib.hid (opAt_new w5 id k a b c d n m 61)
  have HO1 := Lib.hid (HO1.out.below hal)
  have HO2 := Lib.hid (HO2.out.below hal)
  have HB := Lib.hid (bbase HB.out hal)
  have HE := Lib.hid (HE.out.below (hal.mono HE.out.size))
  have HT := Lib.hid (HT.out.on hal)
  have HRb := Lib.hid (HRb.out.below hal)
  clear hal
  go_wp2_with fail
  generalize w5.alloc (Obj.cells #[.int .i64 id, .int .i64 k, .int .i64 a, .int .i64 b, .int .i64 c, .int .i64 d, .int .i64 n, .int .i64 m] 61) = w6 at *
  generalize w5.heap.size = xb at *
  have hcut0 := Int.emod_nonneg cut (show (L.length : Int) ≠ 0 by omega)
  have hcut1 := Int.emod_lt_of_pos cut (show (0 : Int) < (L.length : Int) by omega)
  refine (number_calls cut (L.length : Int) (by omega) (by omega) _).mono ?_
  rintro e _ ⟨rfl, rfl⟩
  obtain ⟨q, hq⟩ : ∃ q : Nat, cut % (L.length : Int) = (q : Int) := ⟨(cut % (L.length : Int)).toNat, by omega⟩
  rw [hq] at hcut0 hcut1 ⊢
  have hql : q < L.length := by omega
  have HRq : Hid (RdB w6 (.slice (some ⟨g4, off4, none⟩) q cap4) (bytesI (L.take q))) := by
    unfold Hid; rw [bytesI_take]; exact HRb.out.take (by rw [bytesI_len]; omega)
  have hqc : (q : Int) ≤ (cap4 : Int) := by omega
  have hqcn : q ≤ cap4 := by omega
  clear hq
  go_wp2_with fail
  refine (readOp_calls HE.out HT.out.op HRq.out (by rw [List.length_take]; omega)).mono ?_
  rintro e w7 ⟨⟨er7, rfl, her⟩, hb⟩
  obtain ⟨ec, pc, hrc⟩ := HRc.out q hql
  rw [hrc] at her
  obtain ⟨eb7, rfl, hec⟩ := her.cut
  have hro : readO (L.take q) = opV 0 0 0 0 0 0 0 0 := by unfold readO; rw [hrc]; exact if_neg hec
  rw [hro]
  clear her hrc hec hro
  have HO1 := Lib.hid (HO1.out.below hb)
  have HO2 := Lib.hid (HO2.out.below hb)
  have HB := Lib.hid (bbase HB.out hb)
  have HE := Lib.hid (HE.out.below (hb.mono HE.out.size))
  have HT := Lib.hid (HT.out.on hb)
  have HX := Lib.hid (HX.out.below hb)
  have HRb := Lib.hid (HRb.out.below hb)
  clear hb HRq hcut0 hcut1 hqc hqcn
  have hal : Below w7.heap.size w7 (w7.alloc (Obj.cells #[.int .i64 0, .int .i64 0, .int .i64 0, .int .i64 0, .int .i64 0, .int .i64 0, .int .i64 0, .int .i64 0] 61)) := (Below.refl _ _).alloc (Nat.le_refl _) _
  have HO1 := Lib.hid (HO1.out.below hal)
  have HO2 := Lib.hid (HO2.out.below hal)
  have HB := Lib.hid (bbase HB.out hal)
  have HE := Lib.hid (HE.out.below (hal.mono HE.out.size))
  have HT := Lib.hid (HT.out.on hal)
  have HX := Lib.hid (HX.out.below hal)
  have HRb := Lib.hid (HRb.out.below hal)
  clear hal
  go_wp2_with fail
  generalize w7.alloc (Obj.cells #[.int .i64 0, .int .i64 0, .int .i64 0, .int .i64 0, .int .i64 0, .int .i64 0, .int .i64 0, .int .i64 0] 61) = w8 at *
  refine (refBytes_calls HRb.out (by rw [bytesI_len]; omega)).mono ?_
  rintro e w9 ⟨u9, rfl, hO9, hb⟩
  obtain ⟨a9, c9, hu9⟩ := hO9.len
  subst hu9
  have hs89 := hb.size
  have hal : Below w9.heap.size w9 (w9.alloc (Obj.cells #[.int .u8 0] 5)) := (Below.refl _ _).alloc (Nat.le_refl _) _
  have HO9 := Lib.hid (hO9.below hal)
  have HR10 := Lib.hid (rdB_one w9 0 5)
  have HLx : Hid ((bytesI L).length + 1 ≤ 1000000) := by unfold Hid; rw [bytesI_len]; omega
  have HB10 := Lib.hid (hb.trans (hal.mono hs89))
  have hs910 : w9.heap.size < (w9.alloc (Obj.cells #[.int .u8 0] 5)).heap.size := by simp
  clear hb hal hO9
  go_wp2_with (at_builtin; refine wpList_appB rfl _ _ 69 rfl Tryd.underlying69 infoB w8.heap.size _ (bytesI L) [(0 : Int)] rfl HO9.out _ rfl HR10.out HLx.out (by omega) ?_)
  intro v11 w11 hO11 hk11
  have hblk9 := World.ownsRow.lt HO9.out
  have hb : Below w8.heap.size w8 w11 := HB10.out.trans (hk11.below (by omega) (fun j hj e => by have := (hblk9 j e).1; omega))
  have HR11 : Hid (RdB w11 v11 (bytesI (L ++ [0]))) := by
    unfold Hid
    rw [bytesI_append]
    exact hO11.rd
  have HO1 := Lib.hid (HO1.out.below hb)
  have HO2 := Lib.hid (HO2.out.below hb)
  have HB := Lib.hid (bbase HB.out hb)
  have HE := Lib.hid (HE.out.below (hb.mono HE.out.size))
  have HT := Lib.hid (HT.out.on hb)
  have HX := Lib.hid (HX.out.below hb)
  have HRb := Lib.hid (HRb.out.below hb)
  clear hb hO11 hk11 hblk9 HB10 HO9 HR10 HLx hs910 hs89
  go_wp2_with fail
  refine (readOp_calls HE.out HT.out.op HR11.out (by rw [List.length_append, List.length_singleton]; omega)).mono ?_
  rintro e w12 ⟨⟨er12, rfl, her⟩, hb⟩
  rw [HRm.out] at her
  obtain ⟨eb12, rfl, hA12⟩ := her.shape
  have hro : readO (L ++ [0]) = opV 0 0 0 0 0 0 0 0 := by unfold readO; rw [HRm.out]; rfl
  rw [hro]
  have HA12 := Lib.hid hA12
  clear her hro hA12 HR11
  have HO1 := Lib.hid (HO1.out.below hb)
  have HO2 := Lib.hid (HO2.out.below hb)
  have HB := Lib.hid (bbase HB.out hb)
  have HE := Lib.hid (HE.out.below (hb.mono HE.out.size))
  have HT := Lib.hid (HT.out.on hb)
  have HX := Lib.hid (HX.out.below hb)
  have HRb := Lib.hid (HRb.out.below hb)
  clear hb
  have hal : Below w12.heap.size w12 (w12.alloc (Obj.cells #[.int .i64 0, .int .i64 0, .int .i64 0, .int .i64 0, .int .i64 0, .int .i64 0, .int .i64 0, .int .i64 0] 61)) := (Below.refl _ _).alloc (Nat.le_refl _) _
  have HA12 := Lib.hid (HA12.out.below hal)
  have HO1 := Lib.hid (HO1.out.below hal)
  have HO2 := Lib.hid (HO2.out.below hal)
  have HB := Lib.hid (bbase HB.out hal)
  have HE := Lib.hid (HE.out.below (hal.mono HE.out.size))
  have HT := Lib.hid (HT.out.on hal)
  have HX := Lib.hid (HX.out.below hal)
  have HRb := Lib.hid (HRb.out.below hal)
  have x0 := HO1.out.c0; have x1 := HO1.out.c1; have x2 := HO1.out.c2; have x3 := HO1.out.c3; have x4 := HO1.out.c4; have x5 := HO1.out.c5; have x6 := HO1.out.c6; have x7 := HO1.out.c7
  clear hal
  go_wp2_with fail
  generalize w12.alloc (Obj.cells #[.int .i64 0, .int .i64 0, .int .i64 0, .int .i64 0, .int .i64 0, .int .i64 0, .int .i64 0, .int .i64 0] 61) = w13 at *
  refine (text_calls HE.out HT.out.op id k a b c d n m).mono ?_
  rintro e w14 ⟨rfl, hb⟩
  rw [HTx.out]
  have HA12 := Lib.hid (HA12.out.below hb)
  have HO1 := Lib.hid (HO1.out.below hb)
  have HO2 := Lib.hid (HO2.out.below hb)
  have HB := Lib.hid (bbase HB.out hb)
  have HE := Lib.hid (HE.out.below (hb.mono HE.out.size))
  have HT := Lib.hid (HT.out.on hb)
  have HX := Lib.hid (HX.out.below hb)
  have HRb := Lib.hid (HRb.out.below hb)
  clear hb x0 x1 x2 x3 x4 x5 x6 x7
  have hTs := HTs.out
  have hTl : (textT id k a b c d n m).size ≤ 140737488355328 := HTl.out
  have HSame2 := HSame.out
  generalize textT id k a b c d n m = t at hTs hTl HSame2 ⊢
  have HTs := Lib.hid hTs
  have HSame2 := Lib.hid HSame2
  have hwl : (wordsT id k a b c d n m).length ≤ 7 := by
    have h := HWl.out
    have h2 : (usesL (Int.toNat k)).length ≤ 5 := uses_size _
    omega
  clear hTs
  have hs14 : w.heap.size + 1 < w14.heap.size := HO2.out.lt
  clear HSame HTx HRf HRc HRm HTl HWl
  go_wp2_with fail
  go_loopw [19, 18, 17] (fun iv fv uv wr => ∃ (i f : Nat) (xs : List ByteArray), i ≤ t.size + 1 ∧ iv = .int .i64 i ∧ fv = .int .i64 f ∧ Hid (OwnS 9 w14.heap.size wr uv xs) ∧ Hid ((i ≤ t.size ∧ SplitAt t.data.toList i (xs.map (·.data.toList)) f) ∨ (i = t.size + 1 ∧ splitA t.data.toList [] = xs.map (·.data.toList))) ∧ Hid (Below w14.heap.size w14 wr)) (fun iv _ _ _ => t.size + 1 - (intOf iv).toNat)
  case atStart => exact ⟨0, 0, [], by omega, rfl, rfl, OwnS.nil _ _ _, .inl ⟨by omega, SplitAt.start _⟩, Below.refl _ _⟩
  case round =>
    obtain ⟨i, f, xs, hi, rfl, rfl, hO, hS, hB⟩ := hrel
    have hts : t.data.toList.length = t.size := rfl
    by_cases hin : i ≤ t.size
    · have hSp : SplitAt t.data.toList i (xs.map (·.data.toList)) f := by
        rcases hS.out with ⟨_, h⟩ | ⟨h, _⟩
        · exact h
        · omega
      have hfi := hSp.le
      have hx7 : xs.length ≤ 7 := by
        have h1 := congrArg List.length hSp.all
        rw [HTs.out, List.length_append, List.length_map, List.length_map] at h1
        omega
      have HSp := Lib.hid hSp
      clear hS hSp
      have hle : decide ((i : Int) ≤ (t.size : Int)) = true := decide_eq_true (by omega)
      have hwi : IntKind.i64.wrap ((i : Int) + 1) = (i : Int) + 1 := IntWalk.i64_in _ (by omega)
      by_cases hcond : i = t.size ∨ ∃ h : i < t.size, t[i]'h = 32
      · go_upto_region 16 with fail
        go_cut [81] (fun v wx => v = .bool true ∧ wr = wx)
        case first =>
          by_cases hend : i = t.size
          · have heq : ((i : Int) == (t.size : Int)) = true := by simp; omega
            clear hcond
            go_wp2_with fail
            go_meet
            exact ⟨rfl, rfl⟩
          · have heq : ((i : Int) == (t.size : Int)) = false := by simp; omega
            obtain ⟨hlt, h32⟩ := hcond.resolve_left hend
            have hi0 : (0 : Int) ≤ (i : Int) := by omega
            have hi1 : (i : Int) < (t.size : Int) := by omega
            clear hcond
            go_wp2_with fail
            go_meet
            exact ⟨rfl, rfl⟩
        case rest =>
          obtain ⟨rfl, rfl⟩ := hcut
          have HCond := Lib.hid hcond
          clear hcond
          have hcz : (wr.alloc (Obj.cells #[.string (t.extract f i)] 9)).cell? ⟨wr.heap.size, 0, none⟩ = some (.string (t.extract f i)) := by go_simp
          have hsz : wr.heap.size < (wr.alloc (Obj.cells #[.string (t.extract f i)] 9)).heap.size := by simp
          have hal : Below wr.heap.size wr (wr.alloc (Obj.cells #[.string (t.extract f i)] 9)) := (Below.refl _ _).alloc (Nat.le_refl _) _
          have HOx := Lib.hid (hO.out.below hal)
          have HBx := Lib.hid (bbase hB.out hal)
          have Hcz := Lib.hid hcz
          have Hlx : Hid (xs.length ≤ 1000000) := by unfold Hid; omega
          have hbs : w14.heap.size ≤ (wr.alloc (Obj.cells #[.string (t.extract f i)] 9)).heap.size := by have := HBx.out.size; exact this
          have Hbs := Lib.hid hbs
          have hf0 : (0 : Int) ≤ (f : Int) := by omega
          have hfI : (f : Int) ≤ (i : Int) := by omega
          have hiT : (i : Int) ≤ (t.size : Int) := by omega
          clear hcz hal hbs hO
          go_wp2_with (at_builtin; refine wpList_appS rfl _ _ 59 rfl 9 Tryd.underlying59 infoStr w14.heap.size _ xs rfl HOx.out wr.heap.size 1 (t.extract f i) rfl Hcz.out Hlx.out Hbs.out ?_)
          intro v' w15 ho5 hk5 hv5
          have hblk := HOx.out.block
          have hb15 : Below w14.heap.size (wr.alloc (Obj.cells #[.string (t.extract f i)] 9)) w15 := hk5.below Hbs.out (fun j hj h => by have := (hblk _ h).1; omega)
          have HB15 := Lib.hid (HBx.out.trans hb15)
          have HO15 := Lib.hid ho5
          have hxt : (t.extract f i).data.toList = (t.data.toList.drop f).take (i - f) := extract_list t f i
          have HS15 : Hid ((i + 1 ≤ t.size ∧ SplitAt t.data.toList (i + 1) ((xs ++ [t.extract f i]).map (·.data.toList)) (i + 1)) ∨ (i + 1 = t.size + 1 ∧ splitA t.data.toList [] = (xs ++ [t.extract f i]).map (·.data.toList))) := by
            rw [Hid, List.map_append, List.map_singleton, hxt]
            rcases HCond.out with h | ⟨h1, h2⟩
            · refine .inr ⟨by omega, ?_⟩
              have hsp := HSp.out
              have hT : t.data.toList.length = t.size := rfl
              rw [h, ← hT] at hsp
              have := hsp.done
              rw [this, h]
              rfl
            · exact .inl ⟨h1, HSp.out.blank h1 (by rw [← h2]; rfl)⟩
          clear ho5 hk5 hv5 hblk hb15 hxt HOx HBx hB
          go_wp2_with fail
          go_roundw
          case rel => exact ⟨i + 1, i + 1, _, by omega, by go_num, by go_num, HO15, HS15, HB15⟩
          case measure => simp [intOf]; omega
      · have hend : i < t.size := by
          rcases Nat.lt_or_ge i t.size with h | h
          · exact h
          · exact absurd (.inl (by omega)) hcond
        have heq : ((i : Int) == (t.size : Int)) = false := by simp; omega
        have hne32 : t[i]'hend ≠ 32 := fun h => hcond (.inr ⟨hend, h⟩)
        have hi0 : (0 : Int) ≤ (i : Int) := by omega
        have hi1 : (i : Int) < (t.size : Int) := by omega
        have HSn : Hid ((i + 1 ≤ t.size ∧ SplitAt t.data.toList (i + 1) (xs.map (·.data.toList)) f) ∨ (i + 1 = t.size + 1 ∧ splitA t.data.toList [] = xs.map (·.data.toList))) := .inl ⟨by omega, HSp.out.other hend (fun h => hne32 (by rw [← h]; rfl))⟩
        have hnb : (((t[i]'hend).toNat : Int) == 32) = false := by
          rw [beq_eq_false_iff_ne]
          intro h
          exact hne32 (UInt8.toNat_inj.1 (by show _ = 32; omega))
        clear hcond hne32
        go_wp2_with fail
        go_roundw
        case rel => exact ⟨i + 1, f, xs, by omega, by go_num, rfl, hO, HSn, hB⟩
        case measure => simp [intOf]; omega
    · obtain rfl : i = t.size + 1 := by omega
      have hfin : splitA t.data.toList [] = xs.map (·.data.toList) := by
        rcases hS.out with ⟨h, _⟩ | ⟨_, h⟩
        · omega
        · exact h
      rw [HTs.out] at hfin
      obtain rfl : wordsT id k a b c d n m = xs := bytes_of_lists hfin
      have hle : decide (((t.size + 1 : Nat) : Int) ≤ (t.size : Int)) = false := decide_eq_false (by omega)
      have hb := hB.out
      clear hS hfin hB
      have HA12 := Lib.hid (HA12.out.below hb)
      have HO1 := Lib.hid (HO1.out.below hb)
      have HO2 := Lib.hid (HO2.out.below hb)
      have HB := Lib.hid (bbase HB.out hb)
      have HE := Lib.hid (HE.out.below (hb.mono HE.out.size))
      have HT := Lib.hid (HT.out.on hb)
      have HX := Lib.hid (HX.out.below hb)
      have HRb := Lib.hid (HRb.out.below hb)

      have hown := hO.out
      obtain ⟨gw, cw, rfl, hw1, hw2, hwlc, hwcm, hwcells⟩ := hown.cells (by unfold wordsT; simp)
      have hSR : SRow wr (some ⟨gw, 0, none⟩) (wordsT id k a b c d n m) := .inr ⟨gw, 0, rfl, hw2, fun j x hj => by rw [Nat.zero_add]; exact hwcells j x hj⟩
      have hszs : ∀ j, j < (wordsT id k a b c d n m).length → ((wordsT id k a b c d n m).getD j ⟨#[]⟩).size ≤ 281474976710656 := fun j hj => by
        have hm : ((wordsT id k a b c d n m).getD j ⟨#[]⟩).data.toList ∈ splitA t.data.toList [] := by
          rw [HTs.out]
          refine List.mem_map.2 ⟨_, ?_, rfl⟩
          rw [List.getD, List.getElem?_eq_getElem hj]
          exact List.getElem_mem _
        have := splitA_len _ _ _ hm
        have e : ((wordsT id k a b c d n m).getD j ⟨#[]⟩).data.toList.length = ((wordsT id k a b c d n m).getD j ⟨#[]⟩).size := rfl
        have e2 : t.data.toList.length = t.size := rfl
        simp only [List.length_nil] at this
        omega
      have HPc := Lib.hid (parse_calls HE.out HT.out (some ⟨gw, 0, none⟩) cw (wordsT id k a b c d n m) hSR hszs (by omega))
      rw [HPw.out.1, HPw.out.2, show errN p 0 = .nilIface from rfl] at HPc
      generalize (wordsT id k a b c d n m).length = wl at *
      clear hown hwcells hSR hszs hO HPw hw1 hw2 hwlc hwcm hwl HTs
      go_wp2_with fail
      refine HPc.out.mono ?_
      rintro e w16 ⟨rfl, hb⟩
      have HO1 := Lib.hid (HO1.out.below hb)
      have HO2 := Lib.hid (HO2.out.below hb)
      have HB := Lib.hid (bbase HB.out hb)
      have HE := Lib.hid (HE.out.below (hb.mono HE.out.size))
      have HT := Lib.hid (HT.out.on hb)
      have HX := Lib.hid (HX.out.below hb)
      have HRb := Lib.hid (HRb.out.below hb)

      have HA12 := Lib.hid (HA12.out.below hb)
      have hal : Below w16.heap.size w16 (w16.alloc (Obj.cells #[.int .i64 id, .int .i64 k, .int .i64 a, .int .i64 b, .int .i64 c, .int .i64 d, .int .i64 n, .int .i64 m] 61)) := (Below.refl _ _).alloc (Nat.le_refl _) _
      have HY := Lib.hid (opAt_new w16 id k a b c d n m 61)
      have HA12 := Lib.hid (HA12.out.below hal)
      have HO1 := Lib.hid (HO1.out.below hal)
      have HO2 := Lib.hid (HO2.out.below hal)
      have HB := Lib.hid (bbase HB.out hal)
      have HE := Lib.hid (HE.out.below (hal.mono HE.out.size))
      have HT := Lib.hid (HT.out.on hal)
      have HX := Lib.hid (HX.out.below hal)
      have HRb := Lib.hid (HRb.out.below hal)

      clear hb hal HPc
      go_wp2_with fail
      generalize w16.alloc (Obj.cells #[.int .i64 id, .int .i64 k, .int .i64 a, .int .i64 b, .int .i64 c, .int .i64 d, .int .i64 n, .int .i64 m] 61) = w17 at *
      generalize w16.heap.size = yb at *
      go_wp2_with fail
      refine (placed_calls 102 (L.length : Int) (by decide) _).mono ?_
      rintro e w18 ⟨rfl, hb⟩
      have HO1 := Lib.hid (HO1.out.below hb)
      have HO2 := Lib.hid (HO2.out.below hb)
      have HB := Lib.hid (bbase HB.out hb)
      have HE := Lib.hid (HE.out.below (hb.mono HE.out.size))
      have HT := Lib.hid (HT.out.on hb)
      have HX := Lib.hid (HX.out.below hb)
      have HRb := Lib.hid (HRb.out.below hb)
      have HA12 := Lib.hid (HA12.out.below hb)
      have HY := Lib.hid (HY.out.below hb)
      clear hb
      go_wp2_with fail
      refine (same_at HE.out (k := 1) (by decide) HA12.out 102 true (L.length : Int)).mono ?_
      rintro e w19 ⟨rfl, hb⟩
      rw [show sameF (101 + ((1 : Nat) : Int)) true ((L.length : Nat) : Int) 102 true (L.length : Int) = true by simp [sameF]]
      have HO1 := Lib.hid (HO1.out.below hb)
      have HO2 := Lib.hid (HO2.out.below hb)
      have HB := Lib.hid (bbase HB.out hb)
      have HE := Lib.hid (HE.out.below (hb.mono HE.out.size))
      have HT := Lib.hid (HT.out.on hb)
      have HX := Lib.hid (HX.out.below hb)
      have HRb := Lib.hid (HRb.out.below hb)
      have HY := Lib.hid (HY.out.below hb)
      clear hb HA12
      have x0 := HX.out.c0; have x1 := HX.out.c1; have x2 := HX.out.c2; have x3 := HX.out.c3; have x4 := HX.out.c4; have x5 := HX.out.c5; have x6 := HX.out.c6; have x7 := HX.out.c7
      have y0 := HO1.out.c0; have y1 := HO1.out.c1; have y2 := HO1.out.c2; have y3 := HO1.out.c3; have y4 := HO1.out.c4; have y5 := HO1.out.c5; have y6 := HO1.out.c6; have y7 := HO1.out.c7
      go_wp2_with fail
      refine (sameOp_calls id k a b c d n m id k a b c d n m _).mono ?_
      rintro e w20 ⟨rfl, hb⟩
      rw [sameO_refl]
      clear x0 x1 x2 x3 x4 x5 x6 x7 y0 y1 y2 y3 y4 y5 y6 y7
      have HO1 := Lib.hid (HO1.out.below hb)
      have HO2 := Lib.hid (HO2.out.below hb)
      have HB := Lib.hid (bbase HB.out hb)
      have HE := Lib.hid (HE.out.below (hb.mono HE.out.size))
      have HT := Lib.hid (HT.out.on hb)
      have HX := Lib.hid (HX.out.below hb)
      have HRb := Lib.hid (HRb.out.below hb)
      have HY := Lib.hid (HY.out.below hb)
      clear hb
      have x0 := HY.out.c0; have x1 := HY.out.c1; have x2 := HY.out.c2; have x3 := HY.out.c3; have x4 := HY.out.c4; have x5 := HY.out.c5; have x6 := HY.out.c6; have x7 := HY.out.c7
      have y0 := HO1.out.c0; have y1 := HO1.out.c1; have y2 := HO1.out.c2; have y3 := HO1.out.c3; have y4 := HO1.out.c4; have y5 := HO1.out.c5; have y6 := HO1.out.c6; have y7 := HO1.out.c7
      go_wp2_with fail
      refine (sameOp_calls id k a b c d n m id k a b c d n m _).mono ?_
      rintro e w21 ⟨rfl, hb⟩
      rw [sameO_refl]
      clear x0 x1 x2 x3 x4 x5 x6 x7 y0 y1 y2 y3 y4 y5 y6 y7
      have HO1 := Lib.hid (HO1.out.below hb)
      have HO2 := Lib.hid (HO2.out.below hb)
      have HB := Lib.hid (bbase HB.out hb)
      have HE := Lib.hid (HE.out.below (hb.mono HE.out.size))
      have HT := Lib.hid (HT.out.on hb)
      have HX := Lib.hid (HX.out.below hb)
      have HRb := Lib.hid (HRb.out.below hb)
      clear hb HY HX
      have x0 := HO2.out.c0; have x1 := HO2.out.c1; have x2 := HO2.out.c2; have x3 := HO2.out.c3; have x4 := HO2.out.c4; have x5 := HO2.out.c5; have x6 := HO2.out.c6; have x7 := HO2.out.c7
      have hs21 := HO2.out.lt
      go_wp2_with fail
      refine (opBytes_calls HE.out HT.out.op id' k' a' b' c' d' n' m').mono ?_
      rintro e w22 ⟨⟨u22, rfl, hbo, hbn⟩, hb⟩
      clear x0 x1 x2 x3 x4 x5 x6 x7
      have HO1 := Lib.hid (HO1.out.below hb)
      have HO2 := Lib.hid (HO2.out.below hb)
      have HB := Lib.hid (bbase HB.out hb)
      have HE := Lib.hid (HE.out.below (hb.mono HE.out.size))
      have HT := Lib.hid (HT.out.on hb)
      have HRb := Lib.hid (HRb.out.below hb)
      have hsb := hb.size
      clear hb
      by_cases hv2 : validC id' k' a' b' c' d' n' m' = 0
      case neg =>
        obtain rfl : u22 = .slice none 0 0 := hbn hv2
        obtain ⟨ad, had⟩ := valV_ne (p := p) hv2
        rw [had]
        clear had hbo hbn hv2
        go_wp2_with fail
        go_ret
        exact ⟨rfl, HB.out⟩
      have HRp := Lib.hid (hbo hv2).rd
      obtain ⟨hs1, hs2⟩ := HSame2.out hv2
      have HTp := Lib.hid (show textB id' k' a' b' c' d' n' m' = textT id' k' a' b' c' d' n' m' from if_pos hv2)
      rw [hv2, show valV p 0 = .nilIface from rfl]
      clear hbo hbn hv2 HSame2
      obtain ⟨S, hS⟩ : ∃ S, S = sameO id k a b c d n m id' k' a' b' c' d' n' m' := ⟨_, rfl⟩
      rw [← hS] at hs1 hs2
      obtain ⟨ap, cp, hup, _, _⟩ := HRp.out.len
      subst hup
      have HSO := Lib.hid (fun w' => sameOp_calls id k a b c d n m id' k' a' b' c' d' n' m' w')
      rw [← hS] at HSO
      have HS1 := Lib.hid hs1
      have HS2 : Hid (((textT id' k' a' b' c' d' n' m').toList == t.toList) = S) := by
        rw [Hid, ByteArray.toList_eq, ByteArray.toList_eq, ← hs2, Bool.eq_iff_iff, beq_iff_eq, decide_eq_true_eq]
      clear hS hs1 hs2
      have x0 := HO1.out.c0; have x1 := HO1.out.c1; have x2 := HO1.out.c2; have x3 := HO1.out.c3; have x4 := HO1.out.c4; have x5 := HO1.out.c5; have x6 := HO1.out.c6; have x7 := HO1.out.c7
      have y0 := HO2.out.c0; have y1 := HO2.out.c1; have y2 := HO2.out.c2; have y3 := HO2.out.c3; have y4 := HO2.out.c4; have y5 := HO2.out.c5; have y6 := HO2.out.c6; have y7 := HO2.out.c7
      go_wp2_with fail
      refine (HSO.out _).mono ?_
      rintro e w23 ⟨rfl, hb⟩
      clear x0 x1 x2 x3 x4 x5 x6 x7 y0 y1 y2 y3 y4 y5 y6 y7
      have HO1 := Lib.hid (HO1.out.below hb)
      have HO2 := Lib.hid (HO2.out.below hb)
      have HB := Lib.hid (bbase HB.out hb)
      have HE := Lib.hid (HE.out.below (hb.mono HE.out.size))
      have HT := Lib.hid (HT.out.on hb)
      have HRb := Lib.hid (HRb.out.below hb)
      have HRp := Lib.hid (HRp.out.below hb)
      clear hb HSO
      have HSB := Lib.hid (sameBytesG_calls HRb.out HRp.out)
      rw [HS1.out] at HSB
      go_wp2_with fail
      refine HSB.out.mono ?_
      rintro e w24 ⟨rfl, hb⟩
      have HO1 := Lib.hid (HO1.out.below hb)
      have HO2 := Lib.hid (HO2.out.below hb)
      have HB := Lib.hid (bbase HB.out hb)
      have HE := Lib.hid (HE.out.below (hb.mono HE.out.size))
      have HT := Lib.hid (HT.out.on hb)
      have HRb := Lib.hid (HRb.out.below hb)
      clear hb HSB
      have y0 := HO2.out.c0; have y1 := HO2.out.c1; have y2 := HO2.out.c2; have y3 := HO2.out.c3; have y4 := HO2.out.c4; have y5 := HO2.out.c5; have y6 := HO2.out.c6; have y7 := HO2.out.c7
      have hSS : (S == S) = true := by simp
      go_wp2_with fail
      refine (text_calls HE.out HT.out.op id' k' a' b' c' d' n' m').mono ?_
      rintro e w25 ⟨rfl, hb⟩
      rw [HTp.out]
      have HB := Lib.hid (bbase HB.out hb)
      clear hb
      go_wp2_with fail
      go_ret
      exact ⟨congrArg (fun x => Ending.returned (Value.bool x)) (by rw [HS2.out]; simp), HB.out⟩
end Go.Proofs.YtkdmedmlbglgmaaDoor
