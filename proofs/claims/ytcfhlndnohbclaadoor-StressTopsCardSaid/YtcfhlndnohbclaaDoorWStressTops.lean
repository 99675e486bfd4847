/- The walk of pledgelaw22.StressTops: it returns true, and writes nothing that was there. -/
import Derived.Test.YtcfhlndnohbclaaDoorCover
import Derived.Test.YtcfhlndnohbclaaDoorNum
import Derived.Test.YtcfhlndnohbclaaDoorSee
import Derived.Deep.RegionLaw
namespace Go.Proofs.YtcfhlndnohbclaaDoor
open Go Go.RowKit
set_option linter.unusedSimpArgs false
set_option linter.unusedVariables false

theorem topStep_le {s : Int × Int} (n : Int) (h : s.2 ≤ s.1) : (topStep s n).2 ≤ (topStep s n).1 := by
  unfold topStep
  (repeat' split) <;> (try simp only) <;> omega
theorem topStep_cases (f s n : Int) : (f < n ∧ topStep (f, s) n = (n, f)) ∨ (n ≤ f ∧ s < n ∧ topStep (f, s) n = (f, n)) ∨ (n ≤ f ∧ n ≤ s ∧ topStep (f, s) n = (f, s)) := by
  by_cases h1 : f < n
  · exact .inl ⟨h1, by simp [topStep, h1]⟩
  · by_cases h2 : s < n
    · exact .inr (.inl ⟨by omega, h2, by simp [topStep, h1, h2]⟩)
    · exact .inr (.inr ⟨by omega, by omega, by simp [topStep, h1, h2]⟩)
theorem topStep_eq {s : Int × Int} (n : Int) (h : s.2 ≤ s.1) : topStep s n = (max s.1 n, max s.2 (min s.1 n)) := by
  obtain ⟨f, g⟩ := s
  simp only at h
  rcases topStep_cases f g n with ⟨h1, e⟩ | ⟨h1, h1', e⟩ | ⟨h1, h1', e⟩ <;> rw [e] <;> simp only [Prod.mk.injEq] <;> omega
theorem topStep_comm {s : Int × Int} (a b : Int) (h : s.2 ≤ s.1) : topStep (topStep s a) b = topStep (topStep s b) a := by
  rw [topStep_eq b (topStep_le a h), topStep_eq a (topStep_le b h), topStep_eq a h, topStep_eq b h]
  simp only [Prod.mk.injEq]
  omega
theorem topFold_perm {xs ys : List Int} (h : xs.Perm ys) : ∀ s : Int × Int, s.2 ≤ s.1 → xs.foldl topStep s = ys.foldl topStep s := by
  induction h with
  | nil => intro s _; rfl
  | cons x _ ih => intro s hs; exact ih _ (topStep_le x hs)
  | swap x y l => intro s hs; simp only [List.foldl_cons]; rw [topStep_comm _ _ hs]
  | trans _ _ ih1 ih2 => intro s hs; rw [ih1 s hs, ih2 s hs]
theorem topR_perm {xs ys : List Int} (h : xs.Perm ys) : topR xs = topR ys := by
  unfold topR topGo
  rw [topFold_perm h (0, 0) (by simp), Bool.eq_iff_iff.2 (show xs.all isAmt = true ↔ ys.all isAmt = true by simp only [List.all_eq_true]; exact ⟨fun k x hx => k x (h.mem_iff.2 hx), fun k x hx => k x (h.mem_iff.1 hx)⟩)]
theorem topR_rot (xs : List Int) (k : Nat) : topR (xs.drop k ++ xs.take k) = topR xs := by
  have h : (xs.drop k ++ xs.take k).Perm (xs.take k ++ xs.drop k) := List.perm_append_comm
  rw [List.take_append_drop] at h
  exact topR_perm h
theorem topR_one (x : Int) : topR [x] = if isAmt x then .ok x else .error 2 := by
  unfold topR
  by_cases hx : isAmt x = true
  · have hb : 0 ≤ x ∧ x ≤ 1000000000000000 := by simpa [isAmt] using hx
    have h2 : topGo [x] = (x, 0) := by
      simp only [topGo, List.foldl_cons, List.foldl_nil, topStep]
      split
      · rfl
      · have : x = 0 := by omega
        subst this; rfl
    rw [h2]; simp [hx]; omega
  · simp [hx]
theorem SlI.one (w : World) (x : Int) (E : TypeId) : SlI (w.alloc (.cells #[.int .i64 x] E)) (.slice (some ⟨w.heap.size, 0, none⟩) 1 1) [x] :=
  ⟨_, 1, rfl, Nat.le_refl _, by decide, .inr ⟨w.heap.size, 0, rfl, by simp, fun i hi => by
    obtain rfl : i = 0 := by simpa using hi
    exact cell_of_row _ _ _ _ _ _ (heap_alloc_new w _)⟩⟩
/-- No two are more than the two greatest; none is more. -/
theorem topGo_most {xs : List Int} (hx : xs.all isAmt = true) : ∀ m, m ≤ xs.length → (∀ i, i < m → xs.getD i 0 ≤ (topGo (xs.take m)).1) ∧ ∀ i j, j < i → i < m → xs.getD i 0 + xs.getD j 0 ≤ (topGo (xs.take m)).1 + (topGo (xs.take m)).2
  | 0, _ => ⟨fun i hi => absurd hi (by omega), fun i j _ hi => absurd hi (by omega)⟩
  | m + 1, hm => by
    obtain ⟨h1, h2⟩ := topGo_most hx m (by omega)
    have hall : (xs.take m).all isAmt = true := by
      rw [List.all_eq_true] at hx ⊢
      exact fun y hy => hx y (List.mem_of_mem_take hy)
    have hbd := topGo_bd _ hall
    rw [take_snoc (by omega), topGo_snoc]
    generalize topGo (xs.take m) = st at h1 h2 hbd
    obtain ⟨f, s⟩ := st
    simp only at h1 h2 hbd
    have hc := topStep_cases f s (xs.getD m 0)
    refine ⟨fun i hi => ?_, fun i j hj hi => ?_⟩
    · rcases Nat.lt_succ_iff_lt_or_eq.1 hi with h | rfl
      · have := h1 i h
        rcases hc with ⟨_, e⟩ | ⟨_, _, e⟩ | ⟨_, _, e⟩ <;> rw [e] <;> simp only <;> omega
      · rcases hc with ⟨_, e⟩ | ⟨_, _, e⟩ | ⟨_, _, e⟩ <;> rw [e] <;> simp only <;> omega
    · rcases Nat.lt_succ_iff_lt_or_eq.1 hi with h | rfl
      · have := h2 i j hj h
        have h3 := h1 i h
        have h4 := h1 j (by omega)
        rcases hc with ⟨_, e⟩ | ⟨_, _, e⟩ | ⟨_, _, e⟩ <;> rw [e] <;> simp only <;> omega
      · have h4 := h1 j hj
        rcases hc with ⟨_, e⟩ | ⟨_, _, e⟩ | ⟨_, _, e⟩ <;> rw [e] <;> simp only <;> omega
theorem topR_most {xs : List Int} {n : Int} (h : topR xs = .ok n) : (∀ i, i < xs.length → 0 ≤ xs.getD i 0 ∧ xs.getD i 0 ≤ 1000000000000000 ∧ xs.getD i 0 ≤ n) ∧ ∀ i j, j < i → i < xs.length → xs.getD i 0 + xs.getD j 0 ≤ n := by
  unfold topR at h
  by_cases hx : xs.all isAmt = true
  · rw [if_pos hx] at h
    split at h
    · obtain ⟨h1, h2⟩ := topGo_most hx xs.length (Nat.le_refl _)
      rw [List.take_length] at h1 h2
      have hbd := topGo_bd _ hx
      simp only [Except.ok.injEq] at h
      refine ⟨fun i hi => ?_, fun i j hj hi => by have := h2 i j hj hi; omega⟩
      have h3 := h1 i hi
      have h4 : isAmt (xs.getD i 0) = true := List.all_eq_true.1 hx _ (by simp [List.getD, hi])
      have h5 : 0 ≤ xs.getD i 0 ∧ xs.getD i 0 ≤ 1000000000000000 := by simpa [isAmt] using h4
      omega
    · simp at h
  · rw [if_neg hx] at h; simp at h

set_option maxHeartbeats 2000000 in
set_option maxRecDepth 100000 in
theorem walk_StressTops {p : Nat → Addr} {w : World} (hE : Errs [2, 3, 4] w.heap.size p w) (a : Option Addr) (len cap : Nat) (zs : List Int) (n : Int) (hz : IsRow .i64 w a len cap zs) (n1 : -9223372036854775808 ≤ n) (n2 : n ≤ 9223372036854775807) :
    Calls Tryd.prog 4 #[.slice a len cap, .int .i64 n] w fun e w' => e = .returned (.bool true) ∧ Below w.heap.size w w' := by
  have HE := Lib.hid hE; clear hE
  by_cases hl : len = 0 ∨ 30 < len
  · by_cases hl0 : len = 0
    · subst hl0
      clear hz hl
      go_enter Tryd.func4, Tryd.ntmps4
      go_wp2_with fail
      refine (first22_calls HE.out (by decide) (by decide) (by decide)).mono ?_
      rintro e w1 ⟨rfl, HB1⟩
      go_wp2_with fail
      go_ret
      exact ⟨rfl, HB1⟩
    · have hl1 : decide ((30 : Int) < len) = true := decide_eq_true (by omega)
      clear hz hl hl0
      go_enter Tryd.func4, Tryd.ntmps4
      go_wp2_with fail
      refine (first22_calls HE.out (by decide) (by decide) (by decide)).mono ?_
      rintro e w1 ⟨rfl, HB1⟩
      go_wp2_with fail
      go_ret
      exact ⟨rfl, HB1⟩
  · have hl1 : decide ((30 : Int) < len) = false := decide_eq_false (by omega)
    have hl0 : 0 < len := by omega
    have hl2 : decide ((len : Int) = 0) = false := decide_eq_false (by omega)
    have hl3 : len ≤ 30 := by omega
    clear hl
    obtain ⟨b, off, rfl, hb, hlz, hzc, hcm, hcell, hwf⟩ := hz.open hl0
    clear hz
    have HC := Lib.hid hcell
    clear hcell
    obtain ⟨k, hk, hkl⟩ : ∃ k : Nat, n % (len : Int) = (k : Int) ∧ k < len := ⟨(n % (len : Int)).toNat, by have := Int.emod_nonneg n (show (len : Int) ≠ 0 by omega); omega, by have := Int.emod_lt_of_pos n (show (0 : Int) < len by omega); have := Int.emod_nonneg n (show (len : Int) ≠ 0 by omega); omega⟩
    have hk0 : (0 : Int) ≤ (k : Int) := Int.natCast_nonneg _
    go_enter Tryd.func4, Tryd.ntmps4
    go_wp2_with fail
    refine (first22_calls HE.out (by decide) (by decide) (by decide)).mono ?_
    rintro e w1 ⟨rfl, HB1⟩
    go_wp2_with fail
    refine (number_calls _ _ (by omega) (by omega) _).mono ?_
    rintro e w2 ⟨rfl, rfl⟩
    rw [hk]
    go_wp2_with fail
    have hk1 : k ≤ len := Nat.le_of_lt hkl
    have hk2 : ¬ cap = k := by omega
    have hk3 : k ≤ cap := by omega
    have hs1 := HB1.size
    have HY1 : ∀ W, Below w.heap.size w W → ∀ i, i < ((zs.take len).drop k).length → W.cell? ((⟨b, off + k, none⟩ : Addr).add i) = some (.int .i64 (((zs.take len).drop k).getD i 0)) := by
      intro W hW i hi
      have hi' : k + i < len := by simp at hi; omega
      rw [show (⟨b, off + k, none⟩ : Addr).add i = ⟨b, off + (k + i), none⟩ by simp [Addr.add, Nat.add_assoc], hW.cell (p := ⟨b, off + (k + i), none⟩) hb, HC.out (k + i) (by omega)]
      simp [List.getD, List.getElem?_drop, List.getElem?_take, hi']
    have HY2 : ∀ W, Below w.heap.size w W → ∀ i, i < ((zs.take len).take k).length → W.cell? ((⟨b, off, none⟩ : Addr).add i) = some (.int .i64 (((zs.take len).take k).getD i 0)) := by
      intro W hW i hi
      have hi' : i < k := by simp at hi; omega
      rw [show (⟨b, off, none⟩ : Addr).add i = ⟨b, off + i, none⟩ by simp [Addr.add], hW.cell (p := ⟨b, off + i, none⟩) hb, HC.out i (by omega)]
      have h3 : i < len := by omega
      simp [List.getD, List.getElem?_take, hi', h3]
    have hL1 : ((zs.take len).drop k).length = len - k := by simp; omega
    have hL2 : ((zs.take len).take k).length = k := by simp; omega
    have HO0 := Lib.hid (OwnI.empty 2 hs1)
    have HB2 : Hid (Below w.heap.size w (w1.alloc (Obj.cells #[] 2)).drew) := Below.drew (HB1.alloc hs1 _)
    generalize hy1 : (zs.take len).drop k = ys1 at HY1 hL1
    generalize hy2 : (zs.take len).take k = ys2 at HY2 hL2
    have HY1' := Lib.hid HY1
    have HY2' := Lib.hid HY2
    have HR : Hid (ys1 ++ ys2 = (zs.take len).drop k ++ (zs.take len).take k) := by rw [hy1, hy2]; rfl
    clear HY1 HY2 hy1 hy2 HB1
    have hsB : w.heap.size ≤ (w1.alloc (Obj.cells #[] 2)).drew.heap.size := HB2.out.size
    go_region_law (first | (refine step_appI (by rfl) (.tmp 36) (.tmp 39) 32 (by rfl) 2 Tryd.underlying32 infoI64 w.heap.size (.slice (some ⟨w1.heap.size, 0, none⟩) 0 0) [] ys1 (by rfl) HO0.out.drew ⟨b, off + k, none⟩ (len - k) (cap - k) (by rfl) hL1 (HY1'.out _ HB2.out) (by rw [hL1]; simp; omega) hsB ?_; intro v2 w2 ho2 hb2) | (refine step_appI (by rfl) (.tmp 40) (.tmp 43) 32 (by rfl) 2 Tryd.underlying32 infoI64 w.heap.size v2 ys1 ys2 (by rfl) ho2 ⟨b, off, none⟩ k cap (by rfl) hL2 (HY2'.out _ (HB2.out.trans hb2)) (by rw [hL1, hL2]; omega) (Nat.le_trans hsB hb2.size) ?_; intro v3 w3 ho3 hb3))
    have HB3 : Hid (Below w.heap.size w w3) := (HB2.out.trans hb2).trans hb3
    have HO3 := Lib.hid ho3
    rw [HR.out] at HO3
    clear ho2 ho3 hb2 hb3 HB2 HO0 HY1' HY2' hL1 hL2 hsB hs1 hk1 hk2 hk3 HR
    have hx0 : w.cell? ⟨b, off, none⟩ = some (.int .i64 (zs.getD 0 0)) := HC.out 0 (by omega)
    have HSL : Hid (SlI w (.slice (some ⟨b, off, none⟩) len cap) (zs.take len)) := ⟨_, cap, by simp; omega, by simp; omega, hcm, .inr ⟨b, off, rfl, hb, fun i hi => by
      have hi' : i < len := by simp at hi; omega
      rw [HC.out i (by omega)]; simp [List.getD, List.getElem?_take, hi']⟩⟩
    have HT := Lib.hid (topR_rot (zs.take len) k)
    have HX := Lib.hid hx0
    clear hx0
    go_wp2_with fail
    refine (top_calls (HE.out.below (HB3.out)) (by decide) (by decide) (HSL.out.below HB3.out)).mono ?_
    rintro e w4 ⟨rfl, hb4⟩
    have HB4 := Lib.hid (HB3.out.trans (hb4.mono HB3.out.size))
    have HO4 := Lib.hid (HO3.out.below hb4)
    clear hb4 HB3 HO3
    cases hr : topR (zs.take len) with
    | ok s =>
      have HMo := Lib.hid (topR_most hr)
      have HQ : Hid (topR ((zs.take len).drop k ++ (zs.take len).take k) = .ok s) := by unfold Hid; rw [HT.out, hr]
      have hlen : (zs.take len).length = len := by simp; omega
      have HG : Hid (∀ i, i < len → (zs.take len).getD i 0 = zs.getD i 0) := fun i hi => by simp [List.getD, List.getElem?_take, hi]
      have h0 := HMo.out.1 0 (by omega)
      rw [HG.out 0 hl0] at h0
      clear hr
      simp only [resV]
      go_wp2_with fail
      refine (top_calls (HE.out.below HB4.out) (by decide) (by decide) (own_slI HO4.out)).mono ?_
      rintro e w5 ⟨rfl, hb5⟩
      rw [HQ.out]
      simp only [resV]
      have HB5 := Lib.hid (HB4.out.trans (hb5.mono HB4.out.size))
      clear hb5 HB4 HO4 HQ
      have hx5 := (HB5.out.cell (p := ⟨b, off, none⟩) hb).trans HX.out
      have HX0 := Lib.hid (rfl : zs.getD 0 0 = zs.getD 0 0)
      generalize hg : zs.getD 0 0 = x0 at hx5 HX h0 HX0
      have ha : isAmt x0 = true := by simp [isAmt]; omega
      have HA := Lib.hid ha
      have HGx := Lib.hid hg
      clear hg ha
      go_wp2_with fail
      refine (top_calls (HE.out.below (HB5.out.alloc HB5.out.size _)) (by decide) (by decide) (SlI.one w5 x0 _)).mono ?_
      rintro e w6 ⟨rfl, hb6⟩
      rw [topR_one, if_pos HA.out]
      simp only [resV]
      have HB6 : Hid (Below w.heap.size w w6) := (HB5.out.alloc HB5.out.size _).trans (hb6.mono (HB5.out.alloc HB5.out.size _).size)
      clear hb6 hx5 HB5
      have hx6 := (HB6.out.cell (p := ⟨b, off, none⟩) hb).trans HX.out
      obtain ⟨h01, h02, h03⟩ := h0
      go_wp2_with fail
      go_quiet (fail)
      go_wp2_with fail
      clear HSL HT HX HX0 HGx HA hx6 n1 n2 hk hkl
      go_loopw [14] (fun i wr => ∃ m : Nat, m ≤ len ∧ i = .int .i64 m ∧ Hid (Below w.heap.size w wr)) (fun i _ => len - (intOf i).toNat)
      case atStart => exact ⟨0, Nat.zero_le _, rfl, Below.drewN HB6.out _⟩
      case round =>
        obtain ⟨m, hm, rfl, hB⟩ := hrel
        by_cases hml : m < len
        · have hxm := (hB.out.cell (p := ⟨b, off + m, none⟩) hb).trans (HC.out m (by omega))
          have HM := Lib.hid (HMo.out.1 m (by omega))
          have h1 := HM.out.2.2
          have h1' := HM.out.1
          have h1'' := HM.out.2.1
          rw [HG.out m hml] at h1 h1' h1''
          have H2 : Hid (∀ j, j < m → zs.getD m 0 + zs.getD j 0 ≤ s ∧ 0 ≤ zs.getD j 0 ∧ zs.getD j 0 ≤ 1000000000000000) := fun j hj => by
            have h2 := HMo.out.2 m j hj (by omega)
            have h3 := HMo.out.1 j (by omega)
            rw [HG.out m hml, HG.out j (by omega)] at h2
            rw [HG.out j (by omega)] at h3
            omega
          generalize zs.getD m 0 = xm at hxm h1 h1' h1'' H2
          go_wp2_with fail
          go_loopw [15] (fun j wq => ∃ q : Nat, q ≤ m ∧ j = .int .i64 q ∧ Hid (Below w.heap.size w wq) ∧ Hid (wq.cell? ⟨b, off + m, none⟩ = some (.int .i64 xm))) (fun j _ => m - (intOf j).toNat)
          case atStart => exact ⟨0, Nat.zero_le _, rfl, hB, hxm⟩
          case round =>
            obtain ⟨q, hq, rfl, hB', hxm'⟩ := hrel
            have hxm := hxm'.out
            by_cases hqm : q < m
            · have hxq := (hB'.out.cell (p := ⟨b, off + q, none⟩) hb).trans (HC.out q (by omega))
              obtain ⟨h21, h22, h23⟩ := H2.out q hqm
              generalize zs.getD q 0 = xq at hxq h21 h22 h23
              go_wp2_with fail
              go_quiet (fail)
              go_wp2_with fail
              go_roundw
              case rel => exact ⟨q + 1, by omega, by go_num, Below.drewN hB'.out _, by simpa [Hid] using hxm⟩
              case measure => simp [intOf]; omega
            · obtain rfl : q = m := by omega
              go_wp2_with fail
              go_roundw
              case rel => exact ⟨q + 1, by omega, by go_num, hB'⟩
              case measure => simp [intOf]; omega
        · obtain rfl : m = len := by omega
          go_wp2_with fail
          go_ret
          exact ⟨rfl, hB.out⟩
    | error q =>
      have HQ : Hid (topR ((zs.take len).drop k ++ (zs.take len).take k) = .error q) := by unfold Hid; rw [HT.out, hr]
      clear hr
      simp only [resV]
      unfold ev errV
      go_wp2_with fail
      refine (top_calls (HE.out.below HB4.out) (by decide) (by decide) (own_slI HO4.out)).mono ?_
      rintro e w5 ⟨rfl, hb5⟩
      rw [HQ.out]
      simp only [resV]
      unfold ev errV
      have HB5 := Lib.hid (HB4.out.trans (hb5.mono HB4.out.size))
      clear hb5 HB4 HO4 HQ
      have hx5 := (HB5.out.cell (p := ⟨b, off, none⟩) hb).trans HX.out
      generalize hg : zs.getD 0 0 = x0 at hx5 HX
      clear hg
      go_wp2_with fail
      refine (top_calls (HE.out.below (HB5.out.alloc HB5.out.size _)) (by decide) (by decide) (SlI.one w5 x0 _)).mono ?_
      rintro e w6 ⟨rfl, hb6⟩
      have HB6 : Hid (Below w.heap.size w w6) := (HB5.out.alloc HB5.out.size _).trans (hb6.mono (HB5.out.alloc HB5.out.size _).size)
      clear hb6 hx5 HB5
      have hx6 := (HB6.out.cell (p := ⟨b, off, none⟩) hb).trans HX.out
      clear HX
      by_cases hx1 : 0 ≤ x0
      · have hd1 : decide (0 ≤ x0) = true := decide_eq_true hx1
        by_cases hx2 : x0 ≤ 1000000000000000
        · have hd2 : decide (x0 ≤ 1000000000000000) = true := decide_eq_true hx2
          rw [topR_one, if_pos (show isAmt x0 = true by simp [isAmt]; omega)]
          simp only [resV]
          go_wp2_with fail
          go_quiet (fail)
          go_wp2_with fail
          go_ret
          exact ⟨rfl, Below.drewN HB6.out _⟩
        · have hd2 : decide (x0 ≤ 1000000000000000) = false := decide_eq_false hx2
          rw [topR_one, if_neg (show ¬ isAmt x0 = true by simp [isAmt]; omega)]
          simp only [resV]
          unfold ev errV
          go_wp2_with fail
          go_quiet (fail)
          go_wp2_with fail
          go_ret
          exact ⟨rfl, Below.drewN HB6.out _⟩
      · have hd1 : decide (0 ≤ x0) = false := decide_eq_false hx1
        rw [topR_one, if_neg (show ¬ isAmt x0 = true by simp [isAmt]; omega)]
        simp only [resV]
        unfold ev errV
        go_wp2_with fail
        go_quiet (fail)
        go_wp2_with fail
        go_ret
        exact ⟨rfl, Below.drewN HB6.out _⟩

end Go.Proofs.YtcfhlndnohbclaaDoor
