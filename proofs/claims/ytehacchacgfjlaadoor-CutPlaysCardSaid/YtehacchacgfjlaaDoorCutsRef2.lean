/- Package pledgeref10: Cuts.Of; pledgeref1: LeftTo, Bucket. -/
import Derived.Test.YtehacchacgfjlaaDoorCutsRef
import Derived.Test.YtehacchacgfjlaaDoorCut
namespace Go.Proofs.YtehacchacgfjlaaDoor
open Go.Maps
open Go Go.RowKit
set_option linter.unusedSimpArgs false
set_option linter.unusedVariables false

theorem leftTo_calls (en td : Int) (w : World) :
    Calls Tryd.prog 91 #[.int .i64 en, .int .i64 td] w fun e w' => e = .returned (.tuple #[.int .i64 (leftN en td), .bool (liveB en td)]) ∧ w = w' := by
  by_cases h1 : en = 0
  · have hq : leftN en td = 0 ∧ liveB en td = true := by simp [leftN, liveB, h1]
    obtain ⟨a, b⟩ := hq
    rw [a, b]
    go_enter Tryd.func91, Tryd.ntmps91
    go_wp2
    go_ret2
    exact ⟨rfl, rfl⟩
  · by_cases h2 : en ≤ td
    · have hq : leftN en td = 0 ∧ liveB en td = false := by simp [leftN, liveB, h1, h2]
      obtain ⟨a, b⟩ := hq
      rw [a, b]
      go_enter Tryd.func91, Tryd.ntmps91
      go_wp2
      go_ret2
      exact ⟨rfl, rfl⟩
    · have hq : leftN en td = wrap64 (en - td) ∧ liveB en td = true := by simp [leftN, liveB, h1, h2]; omega
      obtain ⟨a, b⟩ := hq
      rw [a, b]
      clear a b
      go_enter Tryd.func91, Tryd.ntmps91
      go_wp2
      go_ret2
      exact ⟨rfl, rfl⟩
theorem bucketRef_calls (d : Int) (w : World) : Calls Tryd.prog 92 #[.int .i64 d] w fun e w' => e = .returned (.int .i64 (bucketN d)) ∧ w = w' := by
  have hb : bucketN d = if d < 30 then 0 else if d < 90 then 1 else if d < 365 then 2 else if d < 1095 then 3 else if d < 3650 then 4 else 5 := rfl
  generalize bucketN d = r at *
  by_cases a1 : d < 30
  · rw [if_pos a1] at hb; subst hb
    go_enter Tryd.func92, Tryd.ntmps92
    go_wp2
    go_ret
    exact ⟨rfl, rfl⟩
  · rw [if_neg a1] at hb
    by_cases a2 : d < 90
    · rw [if_pos a2] at hb; subst hb
      go_enter Tryd.func92, Tryd.ntmps92
      go_wp2
      go_ret
      exact ⟨rfl, rfl⟩
    · rw [if_neg a2] at hb
      by_cases a3 : d < 365
      · rw [if_pos a3] at hb; subst hb
        go_enter Tryd.func92, Tryd.ntmps92
        go_wp2
        go_ret
        exact ⟨rfl, rfl⟩
      · rw [if_neg a3] at hb
        by_cases a4 : d < 1095
        · rw [if_pos a4] at hb; subst hb
          go_enter Tryd.func92, Tryd.ntmps92
          go_wp2
          go_ret
          exact ⟨rfl, rfl⟩
        · rw [if_neg a4] at hb
          by_cases a5 : d < 3650
          · rw [if_pos a5] at hb; subst hb
            go_enter Tryd.func92, Tryd.ntmps92
            go_wp2
            go_ret
            exact ⟨rfl, rfl⟩
          · rw [if_neg a5] at hb; subst hb
            go_enter Tryd.func92, Tryd.ntmps92
            go_wp2
            go_ret
            exact ⟨rfl, rfl⟩

set_option maxHeartbeats 2000000 in
set_option maxRecDepth 100000 in
theorem cutsRefOf_calls {w : World} {g : Nat} {m : List ((Int × Int) × Int)} {fx : Int} (h : Arr w g 73 (cutsF m fx)) (hk : KeysC m) (hbd : ∀ x ∈ m, 0 ≤ x.2 ∧ x.2 ≤ 10000) (hfx : 0 ≤ fx ∧ fx ≤ 10000) (id iss cls mon en td : Int) (hv : validA id iss cls mon en = true) :
    Calls Tryd.prog 50 #[.pointer (some ⟨g, 0, none⟩), assetV id iss cls mon en, .int .i64 td] w fun e w' => e = .returned (.int .i64 (ofN m fx id iss cls mon en td)) ∧ Below w.heap.size w w' := by
  have hg := h.lt (by decide)
  unfold ofN
  rw [if_pos hv]
  simp only [validA, decide_eq_true_eq] at hv
  have hcls : 1 ≤ cls ∧ cls ≤ 6 := by omega
  clear hv
  have HK := Lib.hid hk
  have HA := Lib.hid h
  have hfxc := h.cell 72 (by decide)
  rw [show cutsF m fx 72 = .int .i64 fx from rfl] at hfxc
  clear h hk
  by_cases hl : liveB en td = true
  · rw [if_pos hl]
    have hget := get_bd hbd (cls, bucketA cls en (leftN en td))
    have HG : Hid (∀ w', Arr w' g 73 (cutsF m fx) → Calls Tryd.prog 48 #[.pointer (some ⟨g, 0, none⟩), .int .i64 cls, .int .i64 (bucketA cls en (leftN en td))] w' fun e w'' => e = .returned (.int .i64 ((mget m (cls, bucketA cls en (leftN en td))).getD 0)) ∧ w' = w'') := fun w' h' => cutsGet_calls h' HK.out cls _
    clear hbd
    generalize hbk : bucketA cls en (leftN en td) = bk at HG hget ⊢
    generalize (mget m (cls, bk)).getD 0 = bp at HG hget ⊢
    unfold bucketA at hbk
    by_cases h1 : en = 0
    · by_cases h2 : cls = 1
      · by_cases h3 : mon = 1
        · skip
          subst h1
          subst h2
          rw [if_pos rfl] at hbk
          subst hbk
          subst h3
          rw [if_pos rfl, Int.add_zero, Int.min_eq_left hget.2]
          go_enter Tryd.func50, Tryd.ntmps50
          go_wp2_with fail
          refine (liveRef_calls _ _ _ _ _ _ _).mono ?_
          rintro e w1 ⟨rfl, hb⟩
          rw [hl]
          have hA1 := HA.out.below hg (((Below.refl _ w).alloc (Nat.le_refl _) _).trans (hb.mono (by simp)))
          have HB := Lib.hid (((Below.refl _ w).alloc (Nat.le_refl _) _).trans (hb.mono (by simp)))
          obtain ⟨hc, hf⟩ := bcell hb
          have HA1 := Lib.hid hA1
          clear hA1 hb
          go_wp2_with fail
          refine (HG.out _ HA1.out).mono ?_
          rintro e _ ⟨rfl, rfl⟩
          go_wp2_with fail
          go_ret
          exact ⟨rfl, HB.out⟩
        · by_cases h4 : bp + fx ≤ 10000
          · skip
            subst h1
            subst h2
            rw [if_pos rfl] at hbk
            subst hbk
            have k3 : (mon != 1) = true := by simpa using h3
            rw [if_neg h3]
            rw [Int.min_eq_left h4]
            go_enter Tryd.func50, Tryd.ntmps50
            go_wp2_with fail
            refine (liveRef_calls _ _ _ _ _ _ _).mono ?_
            rintro e w1 ⟨rfl, hb⟩
            rw [hl]
            have hA1 := HA.out.below hg (((Below.refl _ w).alloc (Nat.le_refl _) _).trans (hb.mono (by simp)))
            have HB := Lib.hid (((Below.refl _ w).alloc (Nat.le_refl _) _).trans (hb.mono (by simp)))
            obtain ⟨hc, hf⟩ := bcell hb
            have HA1 := Lib.hid hA1
            clear hA1 hb
            go_wp2_with fail
            refine (HG.out _ HA1.out).mono ?_
            rintro e _ ⟨rfl, rfl⟩
            go_wp2_with fail
            go_ret
            exact ⟨rfl, HB.out⟩
          · skip
            subst h1
            subst h2
            rw [if_pos rfl] at hbk
            subst hbk
            have k3 : (mon != 1) = true := by simpa using h3
            rw [if_neg h3]
            have h5 : 10000 ≤ bp + fx := by omega
            rw [Int.min_eq_right h5]
            go_enter Tryd.func50, Tryd.ntmps50
            go_wp2_with fail
            refine (liveRef_calls _ _ _ _ _ _ _).mono ?_
            rintro e w1 ⟨rfl, hb⟩
            rw [hl]
            have hA1 := HA.out.below hg (((Below.refl _ w).alloc (Nat.le_refl _) _).trans (hb.mono (by simp)))
            have HB := Lib.hid (((Below.refl _ w).alloc (Nat.le_refl _) _).trans (hb.mono (by simp)))
            obtain ⟨hc, hf⟩ := bcell hb
            have HA1 := Lib.hid hA1
            clear hA1 hb
            go_wp2_with fail
            refine (HG.out _ HA1.out).mono ?_
            rintro e _ ⟨rfl, rfl⟩
            go_wp2_with fail
            go_ret
            exact ⟨rfl, HB.out⟩
      · by_cases h3 : mon = 1
        · skip
          subst h1
          have k2 : (cls == 1) = false := by simpa using h2
          rw [if_neg h2, if_pos rfl] at hbk
          subst hbk
          subst h3
          rw [if_pos rfl, Int.add_zero, Int.min_eq_left hget.2]
          go_enter Tryd.func50, Tryd.ntmps50
          go_wp2_with fail
          refine (liveRef_calls _ _ _ _ _ _ _).mono ?_
          rintro e w1 ⟨rfl, hb⟩
          rw [hl]
          have hA1 := HA.out.below hg (((Below.refl _ w).alloc (Nat.le_refl _) _).trans (hb.mono (by simp)))
          have HB := Lib.hid (((Below.refl _ w).alloc (Nat.le_refl _) _).trans (hb.mono (by simp)))
          obtain ⟨hc, hf⟩ := bcell hb
          have HA1 := Lib.hid hA1
          clear hA1 hb
          go_wp2_with fail
          refine (HG.out _ HA1.out).mono ?_
          rintro e _ ⟨rfl, rfl⟩
          go_wp2_with fail
          go_ret
          exact ⟨rfl, HB.out⟩
        · by_cases h4 : bp + fx ≤ 10000
          · skip
            subst h1
            have k2 : (cls == 1) = false := by simpa using h2
            rw [if_neg h2, if_pos rfl] at hbk
            subst hbk
            have k3 : (mon != 1) = true := by simpa using h3
            rw [if_neg h3]
            rw [Int.min_eq_left h4]
            go_enter Tryd.func50, Tryd.ntmps50
            go_wp2_with fail
            refine (liveRef_calls _ _ _ _ _ _ _).mono ?_
            rintro e w1 ⟨rfl, hb⟩
            rw [hl]
            have hA1 := HA.out.below hg (((Below.refl _ w).alloc (Nat.le_refl _) _).trans (hb.mono (by simp)))
            have HB := Lib.hid (((Below.refl _ w).alloc (Nat.le_refl _) _).trans (hb.mono (by simp)))
            obtain ⟨hc, hf⟩ := bcell hb
            have HA1 := Lib.hid hA1
            clear hA1 hb
            go_wp2_with fail
            refine (HG.out _ HA1.out).mono ?_
            rintro e _ ⟨rfl, rfl⟩
            go_wp2_with fail
            go_ret
            exact ⟨rfl, HB.out⟩
          · skip
            subst h1
            have k2 : (cls == 1) = false := by simpa using h2
            rw [if_neg h2, if_pos rfl] at hbk
            subst hbk
            have k3 : (mon != 1) = true := by simpa using h3
            rw [if_neg h3]
            have h5 : 10000 ≤ bp + fx := by omega
            rw [Int.min_eq_right h5]
            go_enter Tryd.func50, Tryd.ntmps50
            go_wp2_with fail
            refine (liveRef_calls _ _ _ _ _ _ _).mono ?_
            rintro e w1 ⟨rfl, hb⟩
            rw [hl]
            have hA1 := HA.out.below hg (((Below.refl _ w).alloc (Nat.le_refl _) _).trans (hb.mono (by simp)))
            have HB := Lib.hid (((Below.refl _ w).alloc (Nat.le_refl _) _).trans (hb.mono (by simp)))
            obtain ⟨hc, hf⟩ := bcell hb
            have HA1 := Lib.hid hA1
            clear hA1 hb
            go_wp2_with fail
            refine (HG.out _ HA1.out).mono ?_
            rintro e _ ⟨rfl, rfl⟩
            go_wp2_with fail
            go_ret
            exact ⟨rfl, HB.out⟩
    · by_cases h2 : cls = 1
      · by_cases h3 : mon = 1
        · skip
          have k1 : (en != 0) = true := by simpa using h1
          subst h2
          rw [if_pos rfl] at hbk
          subst hbk
          subst h3
          rw [if_pos rfl, Int.add_zero, Int.min_eq_left hget.2]
          go_enter Tryd.func50, Tryd.ntmps50
          go_wp2_with fail
          refine (liveRef_calls _ _ _ _ _ _ _).mono ?_
          rintro e w1 ⟨rfl, hb⟩
          rw [hl]
          have hA1 := HA.out.below hg (((Below.refl _ w).alloc (Nat.le_refl _) _).trans (hb.mono (by simp)))
          have HB := Lib.hid (((Below.refl _ w).alloc (Nat.le_refl _) _).trans (hb.mono (by simp)))
          obtain ⟨hc, hf⟩ := bcell hb
          have HA1 := Lib.hid hA1
          clear hA1 hb
          go_wp2_with fail
          refine (leftTo_calls _ _ _).mono ?_
          rintro e _ ⟨rfl, rfl⟩
          go_wp2_with fail
          refine (bucketRef_calls _ _).mono ?_
          rintro e _ ⟨rfl, rfl⟩
          go_wp2_with fail
          refine (HG.out _ HA1.out).mono ?_
          rintro e _ ⟨rfl, rfl⟩
          go_wp2_with fail
          go_ret
          exact ⟨rfl, HB.out⟩
        · by_cases h4 : bp + fx ≤ 10000
          · skip
            have k1 : (en != 0) = true := by simpa using h1
            subst h2
            rw [if_pos rfl] at hbk
            subst hbk
            have k3 : (mon != 1) = true := by simpa using h3
            rw [if_neg h3]
            rw [Int.min_eq_left h4]
            go_enter Tryd.func50, Tryd.ntmps50
            go_wp2_with fail
            refine (liveRef_calls _ _ _ _ _ _ _).mono ?_
            rintro e w1 ⟨rfl, hb⟩
            rw [hl]
            have hA1 := HA.out.below hg (((Below.refl _ w).alloc (Nat.le_refl _) _).trans (hb.mono (by simp)))
            have HB := Lib.hid (((Below.refl _ w).alloc (Nat.le_refl _) _).trans (hb.mono (by simp)))
            obtain ⟨hc, hf⟩ := bcell hb
            have HA1 := Lib.hid hA1
            clear hA1 hb
            go_wp2_with fail
            refine (leftTo_calls _ _ _).mono ?_
            rintro e _ ⟨rfl, rfl⟩
            go_wp2_with fail
            refine (bucketRef_calls _ _).mono ?_
            rintro e _ ⟨rfl, rfl⟩
            go_wp2_with fail
            refine (HG.out _ HA1.out).mono ?_
            rintro e _ ⟨rfl, rfl⟩
            go_wp2_with fail
            go_ret
            exact ⟨rfl, HB.out⟩
          · skip
            have k1 : (en != 0) = true := by simpa using h1
            subst h2
            rw [if_pos rfl] at hbk
            subst hbk
            have k3 : (mon != 1) = true := by simpa using h3
            rw [if_neg h3]
            have h5 : 10000 ≤ bp + fx := by omega
            rw [Int.min_eq_right h5]
            go_enter Tryd.func50, Tryd.ntmps50
            go_wp2_with fail
            refine (liveRef_calls _ _ _ _ _ _ _).mono ?_
            rintro e w1 ⟨rfl, hb⟩
            rw [hl]
            have hA1 := HA.out.below hg (((Below.refl _ w).alloc (Nat.le_refl _) _).trans (hb.mono (by simp)))
            have HB := Lib.hid (((Below.refl _ w).alloc (Nat.le_refl _) _).trans (hb.mono (by simp)))
            obtain ⟨hc, hf⟩ := bcell hb
            have HA1 := Lib.hid hA1
            clear hA1 hb
            go_wp2_with fail
            refine (leftTo_calls _ _ _).mono ?_
            rintro e _ ⟨rfl, rfl⟩
            go_wp2_with fail
            refine (bucketRef_calls _ _).mono ?_
            rintro e _ ⟨rfl, rfl⟩
            go_wp2_with fail
            refine (HG.out _ HA1.out).mono ?_
            rintro e _ ⟨rfl, rfl⟩
            go_wp2_with fail
            go_ret
            exact ⟨rfl, HB.out⟩
      · by_cases h3 : mon = 1
        · skip
          have k1 : (en != 0) = true := by simpa using h1
          have k2 : (cls == 1) = false := by simpa using h2
          rw [if_neg h2, if_neg h1] at hbk
          subst hbk
          subst h3
          rw [if_pos rfl, Int.add_zero, Int.min_eq_left hget.2]
          go_enter Tryd.func50, Tryd.ntmps50
          go_wp2_with fail
          refine (liveRef_calls _ _ _ _ _ _ _).mono ?_
          rintro e w1 ⟨rfl, hb⟩
          rw [hl]
          have hA1 := HA.out.below hg (((Below.refl _ w).alloc (Nat.le_refl _) _).trans (hb.mono (by simp)))
          have HB := Lib.hid (((Below.refl _ w).alloc (Nat.le_refl _) _).trans (hb.mono (by simp)))
          obtain ⟨hc, hf⟩ := bcell hb
          have HA1 := Lib.hid hA1
          clear hA1 hb
          go_wp2_with fail
          refine (leftTo_calls _ _ _).mono ?_
          rintro e _ ⟨rfl, rfl⟩
          go_wp2_with fail
          refine (bucketRef_calls _ _).mono ?_
          rintro e _ ⟨rfl, rfl⟩
          go_wp2_with fail
          refine (HG.out _ HA1.out).mono ?_
          rintro e _ ⟨rfl, rfl⟩
          go_wp2_with fail
          go_ret
          exact ⟨rfl, HB.out⟩
        · by_cases h4 : bp + fx ≤ 10000
          · skip
            have k1 : (en != 0) = true := by simpa using h1
            have k2 : (cls == 1) = false := by simpa using h2
            rw [if_neg h2, if_neg h1] at hbk
            subst hbk
            have k3 : (mon != 1) = true := by simpa using h3
            rw [if_neg h3]
            rw [Int.min_eq_left h4]
            go_enter Tryd.func50, Tryd.ntmps50
            go_wp2_with fail
            refine (liveRef_calls _ _ _ _ _ _ _).mono ?_
            rintro e w1 ⟨rfl, hb⟩
            rw [hl]
            have hA1 := HA.out.below hg (((Below.refl _ w).alloc (Nat.le_refl _) _).trans (hb.mono (by simp)))
            have HB := Lib.hid (((Below.refl _ w).alloc (Nat.le_refl _) _).trans (hb.mono (by simp)))
            obtain ⟨hc, hf⟩ := bcell hb
            have HA1 := Lib.hid hA1
            clear hA1 hb
            go_wp2_with fail
            refine (leftTo_calls _ _ _).mono ?_
            rintro e _ ⟨rfl, rfl⟩
            go_wp2_with fail
            refine (bucketRef_calls _ _).mono ?_
            rintro e _ ⟨rfl, rfl⟩
            go_wp2_with fail
            refine (HG.out _ HA1.out).mono ?_
            rintro e _ ⟨rfl, rfl⟩
            go_wp2_with fail
            go_ret
            exact ⟨rfl, HB.out⟩
          · skip
            have k1 : (en != 0) = true := by simpa using h1
            have k2 : (cls == 1) = false := by simpa using h2
            rw [if_neg h2, if_neg h1] at hbk
            subst hbk
            have k3 : (mon != 1) = true := by simpa using h3
            rw [if_neg h3]
            have h5 : 10000 ≤ bp + fx := by omega
            rw [Int.min_eq_right h5]
            go_enter Tryd.func50, Tryd.ntmps50
            go_wp2_with fail
            refine (liveRef_calls _ _ _ _ _ _ _).mono ?_
            rintro e w1 ⟨rfl, hb⟩
            rw [hl]
            have hA1 := HA.out.below hg (((Below.refl _ w).alloc (Nat.le_refl _) _).trans (hb.mono (by simp)))
            have HB := Lib.hid (((Below.refl _ w).alloc (Nat.le_refl _) _).trans (hb.mono (by simp)))
            obtain ⟨hc, hf⟩ := bcell hb
            have HA1 := Lib.hid hA1
            clear hA1 hb
            go_wp2_with fail
            refine (leftTo_calls _ _ _).mono ?_
            rintro e _ ⟨rfl, rfl⟩
            go_wp2_with fail
            refine (bucketRef_calls _ _).mono ?_
            rintro e _ ⟨rfl, rfl⟩
            go_wp2_with fail
            refine (HG.out _ HA1.out).mono ?_
            rintro e _ ⟨rfl, rfl⟩
            go_wp2_with fail
            go_ret
            exact ⟨rfl, HB.out⟩
  · have hl' : liveB en td = false := by simpa using hl
    rw [if_neg hl]
    clear hl
    go_enter Tryd.func50, Tryd.ntmps50
    go_wp2_with fail
    refine (liveRef_calls _ _ _ _ _ _ _).mono ?_
    rintro e w1 ⟨rfl, hb⟩
    rw [hl']
    go_wp2_with fail
    go_ret
    exact ⟨rfl, ((Below.refl _ w).alloc (Nat.le_refl _) _).trans (hb.mono (by simp))⟩
end Go.Proofs.YtehacchacgfjlaaDoor
