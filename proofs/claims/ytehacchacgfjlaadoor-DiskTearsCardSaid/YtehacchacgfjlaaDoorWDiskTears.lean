/- The walk of pledgelaw5.DiskTears: it returns true, and writes nothing that was there. -/
import Derived.Test.YtehacchacgfjlaaDoorDiskD
namespace Go.Proofs.YtehacchacgfjlaaDoor
open Go.Maps
open Go Go.RowKit
set_option linter.unusedSimpArgs false
set_option linter.unusedVariables false

/-- The sectors behind the first flush. -/
def tearF (a : Int) : Int → List Int := rdS zeroS (mput (mput [] 1 (List.replicate 128 a)) 2 (List.replicate 128 9))
theorem tearF_1 (a : Int) : tearF a 1 = List.replicate 128 a := by
  unfold tearF
  rw [rdS_put, if_neg (by decide), rdS_put, if_pos rfl]
theorem tearF_2 (a : Int) : tearF a 2 = List.replicate 128 9 := by
  unfold tearF
  rw [rdS_put, if_pos rfl]
/-- What is read behind the fall. -/
theorem tear_read (a b : Int) (m : Nat) (hm : m ≤ 128) (q : Int) (h1 : q % 3 = 2) (h2 : q / 3 % 129 = m) :
    crashTo (rdS zeroS (mput [] 1 (List.replicate 128 b))) (keysA (mput [] 1 (List.replicate 128 b))) [q] (tearF a) 1 = List.replicate m b ++ List.replicate (128 - m) a ∧
    crashTo (rdS zeroS (mput [] 1 (List.replicate 128 b))) (keysA (mput [] 1 (List.replicate 128 b))) [q] (tearF a) 2 = List.replicate 128 9 := by
  have e1 : keysA (mput [] 1 (List.replicate 128 b)) = [1] := by simp [keysA, mput, mget, List.mergeSort]
  have e2 : rdS zeroS (mput [] 1 (List.replicate 128 b)) 1 = List.replicate 128 b := by rw [rdS_put, if_pos rfl]
  rw [e1]
  constructor
  · simp only [crashTo, if_true, e2, tearF_1]
    unfold tear
    rw [h1, h2]
    rw [if_neg (by decide), if_pos rfl, Int.toNat_natCast, List.take_replicate, List.drop_replicate, Nat.min_eq_left hm]
  · simp only [crashTo]
    rw [if_neg (by decide), tearF_2]
theorem tear_get (a b : Int) (m k : Nat) (hm : m ≤ 128) (hk : k < 128) : (List.replicate m b ++ List.replicate (128 - m) a).getD k 0 = if k < m then b else a := by
  simp only [List.getD, List.getElem?_append, List.length_replicate, List.getElem?_replicate]
  split
  · rfl
  · rw [if_pos (by omega)]; rfl
set_option maxHeartbeats 8000000 in
set_option maxRecDepth 100000 in
theorem walk_DiskTears {ks : List Nat} {p : Nat → Addr} {w : World} (hE : Errs ks w.heap.size p w) (a b n : Int) (low : Bool) (_ : 0 ≤ a) (_ : a ≤ 255) (_ : 0 ≤ b) (_ : b ≤ 255) (h3 : -9223372036854775808 ≤ n) (h4 : n ≤ 9223372036854775807) :
    Calls Tryd.prog 4 #[.int .u8 a, .int .u8 b, .int .i64 n, .bool low] w fun e w' => e = .returned (.bool true) ∧ Below w.heap.size w w' := by
  clear hE
  go_enter Tryd.func4, Tryd.ntmps4
  go_wp2_with fail
  refine (first5_calls _).mono ?_
  rintro e w1 ⟨rfl, hb1⟩
  have HB1 := Lib.hid hb1
  have hs1 := hb1.size
  clear hb1
  go_wp2_with fail
  refine (number_calls n 129 (by decide) (by decide) _).mono ?_
  rintro e w2 ⟨rfl, rfl⟩
  have hn0 := Int.emod_nonneg n (show (129 : Int) ≠ 0 by decide)
  have hn1 := Int.emod_lt_of_pos n (show (0 : Int) < 129 by decide)
  obtain ⟨m, hm⟩ : ∃ m : Nat, n % 129 = (m : Int) := ⟨(n % 129).toNat, by omega⟩
  rw [hm] at hn0 hn1 ⊢
  clear hm h3 h4
  go_wp2_with fail
  refine (da_new 3 (by decide) (by decide) w1).mono ?_
  rintro e w3 ⟨rfl, hD, hb⟩
  have HD3 := Lib.hid hD
  have HB3 : Hid (Below w.heap.size w w3) := HB1.out.trans (hb.mono hs1)
  have hd3 := hD.lt.1
  clear hD hb
  go_wp2_with fail
  refine (whole_calls a w3).mono ?_
  rintro e w4 ⟨rfl, hR, hb⟩
  have HR4 := Lib.hid (rowIs_rd hR)
  have HD4 := Lib.hid (HD3.out.below hb)
  have HB4 : Hid (Below w.heap.size w w4) := HB3.out.trans (hb.mono HB3.out.size)
  have hd4 := HD4.out.lt.1
  clear hR hb
  go_wp2_with fail
  refine (da_write HD4.out (by decide) (by decide) rfl 1 (by decide) (by decide) (by decide) HR4.out (by simp) (by intro g hg; simp only [Value.ownBlock, Option.some.injEq] at hg; omega)).mono ?_
  rintro e w5 ⟨rfl, hD, hk⟩
  rw [show goneF 0 false = 0 from rfl] at hD
  have HD5 := Lib.hid hD
  have HB5 : Hid (Below w.heap.size w w5) := HB4.out.trans ((HD4.out.out hk (by have := HD4.out.lt.1; omega) (fun z hz => hz.elim .inl (fun h => .inr (.inr h)))).mono hs1)
  have hd5 := hD.lt.1
  clear hD hk HD3 HD4 HB4 HR4
  go_wp2_with fail
  refine (whole_calls 9 w5).mono ?_
  rintro e w6 ⟨rfl, hR, hb⟩
  have HR6 := Lib.hid (rowIs_rd hR)
  have HD6 := Lib.hid (HD5.out.below hb)
  have HB6 : Hid (Below w.heap.size w w6) := HB5.out.trans (hb.mono HB5.out.size)
  have hd6 := HD6.out.lt.1
  clear hR hb
  go_wp2_with fail
  refine (da_write HD6.out (by decide) (by decide) rfl 2 (by decide) (by decide) (by decide) HR6.out (by simp) (by intro g hg; simp only [Value.ownBlock, Option.some.injEq] at hg; omega)).mono ?_
  rintro e w7 ⟨rfl, hD, hk⟩
  rw [show goneF 0 false = 0 from rfl] at hD
  have HD7 := Lib.hid hD
  have HB7 : Hid (Below w.heap.size w w7) := HB6.out.trans ((HD6.out.out hk (by have := HD6.out.lt.1; omega) (fun z hz => hz.elim .inl (fun h => .inr (.inr h)))).mono hs1)
  have hd7 := hD.lt.1
  clear hD hk HD5 HD6 HB6 HR6
  go_wp2_with fail
  refine (da_flush HD7.out (by decide) (by decide) rfl (by decide) (by omega)).mono ?_
  rintro e w8 ⟨rfl, pb8, hD, hp8, hk⟩
  rw [show goneF 0 false = 0 from rfl] at hD
  have HD8 : Hid (DA w1.heap.size w8 (w1.heap.size + 2) w1.heap.size pb8 3 (tearF a) [] (0 + 1 + 1 + 1) 0 false) := hD
  have HB8 : Hid (Below w.heap.size w w8) := HB7.out.trans ((HD7.out.out hk (by omega) (fun z hz => hz.elim .inl (fun h => .inr (.inl h)))).mono hs1)
  have hd8 := hD.lt.1
  clear hD hk HD7
  go_wp2_with fail
  refine (whole_calls b w8).mono ?_
  rintro e w9 ⟨rfl, hR, hb⟩
  have HR9 := Lib.hid (rowIs_rd hR)
  have HD9 := Lib.hid (HD8.out.below hb)
  have HB9 : Hid (Below w.heap.size w w9) := HB8.out.trans (hb.mono HB8.out.size)
  have hd9 := HD9.out.lt.1
  clear hR hb
  go_wp2_with fail
  refine (da_write HD9.out (by decide) (by decide) rfl 1 (by decide) (by decide) (by decide) HR9.out (by simp) (by intro g hg; simp only [Value.ownBlock, Option.some.injEq] at hg; omega)).mono ?_
  rintro e w10 ⟨rfl, hD, hk⟩
  rw [show goneF 0 false = 0 from rfl] at hD
  have HD10 := Lib.hid hD
  have HB10 : Hid (Below w.heap.size w w10) := HB9.out.trans ((HD9.out.out hk (by have := HD9.out.lt.1; omega) (fun z hz => hz.elim .inl (fun h => .inr (.inr h)))).mono hs1)
  have hd10 := hD.lt.1
  clear hD hk HD8 HD9 HB9 HR9
  obtain ⟨q, hq⟩ : ∃ q : Int, q = if low then 2 + 3 * (m : Int) - 1935 else 2 + 3 * (m : Int) := ⟨_, rfl⟩
  have hq1 : q % 3 = 2 ∧ q / 3 % 129 = m ∧ -9223372036854775808 ≤ q ∧ q ≤ 9223372036854775807 := by
    subst hq
    cases low <;> simp <;> omega
  have HQ := Lib.hid hq1
  clear hq1
  cases low with
  | true =>
    rw [if_pos rfl] at hq
    subst hq
    go_wp2_with fail
    have hb11 : Below w10.heap.size w10 (w10.alloc (.cells #[.int .i64 (2 + 3 * (m : Int) - 1935)] 3)) := (Below.refl _ _).alloc (Nat.le_refl _) _
    have HD11 := Lib.hid (HD10.out.below hb11)
    have HB11 : Hid (Below w.heap.size w (w10.alloc (.cells #[.int .i64 (2 + 3 * (m : Int) - 1935)] 3))) := HB10.out.trans (hb11.mono HB10.out.size)
    have hq2 := HQ.out.2.2
    refine (da_crash HD11.out (by decide) (by simp; omega) (qs := [(2 + 3 * (m : Int) - 1935)]) (rdK_one .i64 w10 _ _) (by intro g hg; simp only [Value.ownBlock, Option.some.injEq] at hg; omega) (by intro z hz; simp at hz; subst hz; exact ⟨hq2.1, hq2.2⟩)).mono ?_
    rintro e w12 ⟨rfl, pb12, hD, hp12, hk⟩
    have HD12 := Lib.hid hD
    have HB12 : Hid (Below w.heap.size w w12) := HB11.out.trans ((HD11.out.out hk (by simp; omega) (fun z hz => hz.elim .inl (fun h => .inr (.inl h)))).mono hs1)
    have HT := Lib.hid (tear_read a b m (by omega) (2 + 3 * (m : Int) - 1935) HQ.out.1 HQ.out.2.1)
    clear hD hk hb11 HD11 HB11 HD10 HB10 hq2
    go_wp2_with fail
    refine (da_read HD12.out (by decide) 1 (by decide) (by decide)).mono ?_
    rintro e w13 ⟨v13, rfl, hO, hb⟩
    rw [rdS_nil, HT.out.1] at hO
    have HL : Hid ((List.replicate m b ++ List.replicate (128 - m) a).length = 128) := by unfold Hid; simp; omega
    obtain ⟨g, cap, rfl, hg1, hg2, hg3, hg4, hg5, hg6⟩ := hO.cells (by rw [HL.out]; decide)
    rw [HL.out] at hg3 ⊢
    have HG5 := Lib.hid hg5
    have HD13 := Lib.hid (HD12.out.below hb)
    have HB13 : Hid (Below w.heap.size w w13) := HB12.out.trans (hb.mono HB12.out.size)
    clear hO hb HD12 HB12 hg5 hg6
    unfold maxLen at hg4
    go_wp2_with fail
    refine (da_read HD13.out (by decide) 2 (by decide) (by decide)).mono ?_
    rintro e w14 ⟨v14, rfl, hO, hb⟩
    rw [rdS_nil, HT.out.2] at hO
    have HO := Lib.hid hO.rd
    obtain ⟨a14, c14, rfl⟩ := hO.len
    have HD14 := Lib.hid (HD13.out.below hb)
    have HB14 : Hid (Below w13.heap.size w13 w14) := hb
    clear hO hb HD13
    go_wp2_with fail
    refine (whole_calls 9 w14).mono ?_
    rintro e w15 ⟨rfl, hR, hb⟩
    have HR15 := Lib.hid (rowIs_rd hR)
    have HO15 := Lib.hid (HO.out.below hb)
    have HD15 := Lib.hid (HD14.out.below hb)
    have HB15 : Hid (Below w13.heap.size w13 w15) := HB14.out.trans (hb.mono HB14.out.size)
    clear hR hb HD14 HB14 HO
    go_wp2_with fail
    refine (sameBytes_calls HO15.out HR15.out (by simp)).mono ?_
    rintro e w16 ⟨rfl, hb⟩
    have HD16 := Lib.hid (HD15.out.below hb)
    have HB16 : Hid (Below w13.heap.size w13 w16) := HB15.out.trans (hb.mono HB15.out.size)
    clear hb HD15 HB15 HO15 HR15
    go_wp2_with fail
    go_loopw [17] (fun i wq => ∃ k : Nat, k ≤ 128 ∧ i = .int .i64 k ∧ w16 = wq) (fun i _ => 128 - (intOf i).toNat)
    case atStart => exact ⟨0, Nat.zero_le _, rfl, rfl⟩
    case round =>
      obtain ⟨k, hk, rfl, rfl⟩ := hrel
      by_cases hkl : k < 128
      · have d0 := (HB16.out.cell (p := ⟨g, k, none⟩) hg2).trans (HG5.out k (by rw [HL.out]; exact hkl))
        rw [tear_get a b m k (by omega) hkl] at d0
        by_cases hkm : k < m
        · rw [if_pos hkm] at d0
          go_wp2_with fail
          go_roundw
          case rel => exact ⟨k + 1, by omega, by go_num, trivial⟩
          case measure => simp [intOf]; omega
        · rw [if_neg hkm] at d0
          have hdm : decide (k < m) = false := decide_eq_false hkm
          go_wp2_with fail
          go_roundw
          case rel => exact ⟨k + 1, by omega, by go_num, trivial⟩
          case measure => simp [intOf]; omega
      · obtain rfl : k = 128 := by omega
        go_wp2_with fail
        refine (da_pending HD16.out).mono ?_
        rintro e w17 ⟨rfl, rfl⟩
        rw [List.length_nil]
        go_wp2_with fail
        go_ret
        exact ⟨rfl, HB13.out.trans (HB16.out.mono HB13.out.size)⟩
  | false =>
    rw [if_neg (by decide)] at hq
    subst hq
    go_wp2_with fail
    have hb11 : Below w10.heap.size w10 (w10.alloc (.cells #[.int .i64 (2 + 3 * (m : Int))] 3)) := (Below.refl _ _).alloc (Nat.le_refl _) _
    have HD11 := Lib.hid (HD10.out.below hb11)
    have HB11 : Hid (Below w.heap.size w (w10.alloc (.cells #[.int .i64 (2 + 3 * (m : Int))] 3))) := HB10.out.trans (hb11.mono HB10.out.size)
    have hq2 := HQ.out.2.2
    refine (da_crash HD11.out (by decide) (by simp; omega) (qs := [(2 + 3 * (m : Int))]) (rdK_one .i64 w10 _ _) (by intro g hg; simp only [Value.ownBlock, Option.some.injEq] at hg; omega) (by intro z hz; simp at hz; subst hz; exact ⟨hq2.1, hq2.2⟩)).mono ?_
    rintro e w12 ⟨rfl, pb12, hD, hp12, hk⟩
    have HD12 := Lib.hid hD
    have HB12 : Hid (Below w.heap.size w w12) := HB11.out.trans ((HD11.out.out hk (by simp; omega) (fun z hz => hz.elim .inl (fun h => .inr (.inl h)))).mono hs1)
    have HT := Lib.hid (tear_read a b m (by omega) (2 + 3 * (m : Int)) HQ.out.1 HQ.out.2.1)
    clear hD hk hb11 HD11 HB11 HD10 HB10 hq2
    go_wp2_with fail
    refine (da_read HD12.out (by decide) 1 (by decide) (by decide)).mono ?_
    rintro e w13 ⟨v13, rfl, hO, hb⟩
    rw [rdS_nil, HT.out.1] at hO
    have HL : Hid ((List.replicate m b ++ List.replicate (128 - m) a).length = 128) := by unfold Hid; simp; omega
    obtain ⟨g, cap, rfl, hg1, hg2, hg3, hg4, hg5, hg6⟩ := hO.cells (by rw [HL.out]; decide)
    rw [HL.out] at hg3 ⊢
    have HG5 := Lib.hid hg5
    have HD13 := Lib.hid (HD12.out.below hb)
    have HB13 : Hid (Below w.heap.size w w13) := HB12.out.trans (hb.mono HB12.out.size)
    clear hO hb HD12 HB12 hg5 hg6
    unfold maxLen at hg4
    go_wp2_with fail
    refine (da_read HD13.out (by decide) 2 (by decide) (by decide)).mono ?_
    rintro e w14 ⟨v14, rfl, hO, hb⟩
    rw [rdS_nil, HT.out.2] at hO
    have HO := Lib.hid hO.rd
    obtain ⟨a14, c14, rfl⟩ := hO.len
    have HD14 := Lib.hid (HD13.out.below hb)
    have HB14 : Hid (Below w13.heap.size w13 w14) := hb
    clear hO hb HD13
    go_wp2_with fail
    refine (whole_calls 9 w14).mono ?_
    rintro e w15 ⟨rfl, hR, hb⟩
    have HR15 := Lib.hid (rowIs_rd hR)
    have HO15 := Lib.hid (HO.out.below hb)
    have HD15 := Lib.hid (HD14.out.below hb)
    have HB15 : Hid (Below w13.heap.size w13 w15) := HB14.out.trans (hb.mono HB14.out.size)
    clear hR hb HD14 HB14 HO
    go_wp2_with fail
    refine (sameBytes_calls HO15.out HR15.out (by simp)).mono ?_
    rintro e w16 ⟨rfl, hb⟩
    have HD16 := Lib.hid (HD15.out.below hb)
    have HB16 : Hid (Below w13.heap.size w13 w16) := HB15.out.trans (hb.mono HB15.out.size)
    clear hb HD15 HB15 HO15 HR15
    go_wp2_with fail
    go_loopw [17] (fun i wq => ∃ k : Nat, k ≤ 128 ∧ i = .int .i64 k ∧ w16 = wq) (fun i _ => 128 - (intOf i).toNat)
    case atStart => exact ⟨0, Nat.zero_le _, rfl, rfl⟩
    case round =>
      obtain ⟨k, hk, rfl, rfl⟩ := hrel
      by_cases hkl : k < 128
      · have d0 := (HB16.out.cell (p := ⟨g, k, none⟩) hg2).trans (HG5.out k (by rw [HL.out]; exact hkl))
        rw [tear_get a b m k (by omega) hkl] at d0
        by_cases hkm : k < m
        · rw [if_pos hkm] at d0
          go_wp2_with fail
          go_roundw
          case rel => exact ⟨k + 1, by omega, by go_num, trivial⟩
          case measure => simp [intOf]; omega
        · rw [if_neg hkm] at d0
          have hdm : decide (k < m) = false := decide_eq_false hkm
          go_wp2_with fail
          go_roundw
          case rel => exact ⟨k + 1, by omega, by go_num, trivial⟩
          case measure => simp [intOf]; omega
      · obtain rfl : k = 128 := by omega
        go_wp2_with fail
        refine (da_pending HD16.out).mono ?_
        rintro e w17 ⟨rfl, rfl⟩
        rw [List.length_nil]
        go_wp2_with fail
        go_ret
        exact ⟨rfl, HB13.out.trans (HB16.out.mono HB13.out.size)⟩
end Go.Proofs.YtehacchacgfjlaaDoor
