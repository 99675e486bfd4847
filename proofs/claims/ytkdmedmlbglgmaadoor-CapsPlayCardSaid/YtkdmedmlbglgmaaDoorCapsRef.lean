/- Package pledgeref10: Caps.Set, Get; most, sum: what each call returns and leaves. -/
import Derived.Test.YtkdmedmlbglgmaaDoorRef10I
import Derived.Test.YtkdmedmlbglgmaaDoorCapsSet
import Derived.Test.YtkdmedmlbglgmaaDoorPlayKit
namespace Go.Proofs.YtkdmedmlbglgmaaDoor
open Go.Maps
open Go Go.RowKit
set_option linter.unusedSimpArgs false
set_option linter.unusedVariables false

theorem mostR_calls (n l : Int) (w : World) : Calls Tryd.prog 48 #[.int .i64 n, .int .i64 l] w fun e w' => e = .returned (.int .i64 (cut l n)) ∧ w = w' := by
  unfold cut
  by_cases h1 : 0 < l
  · rw [if_pos h1]
    by_cases h2 : l < n
    · rw [Int.min_eq_right (by omega)]
      go_enter Tryd.func48, Tryd.ntmps48
      go_wp2
      go_ret
      exact ⟨rfl, rfl⟩
    · rw [Int.min_eq_left (by omega)]
      have h2' : decide (l < n) = false := decide_eq_false h2
      clear h2
      go_enter Tryd.func48, Tryd.ntmps48
      go_wp2
      go_ret
      exact ⟨rfl, rfl⟩
  · rw [if_neg h1]
    have h1' : decide (0 < l) = false := decide_eq_false h1
    clear h1
    go_enter Tryd.func48, Tryd.ntmps48
    go_wp2
    go_ret
    exact ⟨rfl, rfl⟩
theorem sumR_calls (a b : Int) (h1 : 0 ≤ a) (h2 : a ≤ 2000000000000000000) (h3 : 0 ≤ b) (h4 : b ≤ 2000000000000000000) (w : World) :
    Calls Tryd.prog 47 #[.int .i64 a, .int .i64 b] w fun e w' => e = .returned (.tuple #[.int .i64 (a + b), .bool (decide (a + b ≤ 1000000000000000))]) ∧ w = w' := by
  go_enter Tryd.func47, Tryd.ntmps47
  go_wp2
  go_ret2
  exact ⟨rfl, rfl⟩

/-- What the reference's limits' cells read. -/
def capsF (m : Lims) (j : Nat) : Value := .int .i64 (if j < 7 then lim m 1 (j : Int) else if j < 14 then lim m 2 ((j : Int) - 7) else lim m 3 ((j : Int) - 14))
theorem capsF_1 (m : Lims) {k : Int} (h1 : 0 ≤ k) (h2 : k ≤ 6) : capsF m k.toNat = .int .i64 (lim m 1 k) := by
  unfold capsF
  rw [if_pos (by omega), show ((k.toNat : Nat) : Int) = k by omega]
theorem capsF_2 (m : Lims) {k : Int} (h1 : 0 ≤ k) (h2 : k ≤ 6) : capsF m (7 + k.toNat) = .int .i64 (lim m 2 k) := by
  unfold capsF
  rw [if_neg (by omega), if_pos (by omega), show ((7 + k.toNat : Nat) : Int) - 7 = k by omega]
theorem capsF_3 (m : Lims) {k : Int} (h1 : 0 ≤ k) : capsF m (14 + k.toNat) = .int .i64 (lim m 3 k) := by
  unfold capsF
  rw [if_neg (by omega), if_neg (by omega), show ((14 + k.toNat : Nat) : Int) - 14 = k by omega]
theorem lim_same (m : Lims) {s k v : Int} (h : limOK s k v = true) : lim (lset m s k v) s k = v := by
  unfold lim lset
  rw [if_pos h]
  split
  · rename_i h0; rw [mget_mdel_same, h0]; rfl
  · rw [mget_mput_same]; rfl
theorem lim_other (m : Lims) (s k v : Int) {a b : Int} (h : ¬ (a = s ∧ b = k)) : lim (lset m s k v) a b = lim m a b := by
  have h' : (a, b) ≠ (s, k) := fun e => h (by simpa using e)
  unfold lim lset
  split
  · split
    · rw [mget_mdel_other _ h', mget_mput_other _ _ h']
    · rw [mget_mput_other _ _ h']
  · rfl
theorem capsF_put (m : Lims) {s k v : Int} (h : limOK s k v = true) {off : Nat} (ho : (s = 1 ∧ off = k.toNat) ∨ (s = 2 ∧ off = 7 + k.toNat) ∨ (s = 3 ∧ off = 14 + k.toNat)) (j : Nat) (hj : j < 47) :
    (if j = off then .int .i64 v else capsF m j) = capsF (lset m s k v) j := by
  have hk : 1 ≤ k ∧ (s = 1 ∨ s = 2 → k ≤ 6) := by
    have h2 := of_decide_eq_true (show decide (1 ≤ k ∧ k ≤ mostOf s ∧ 0 ≤ v ∧ v ≤ 1000000000000000) = true from h)
    refine ⟨h2.1, fun hs => ?_⟩
    rcases hs with rfl | rfl
    · exact h2.2.1
    · exact h2.2.1
  by_cases e : j = off
  · rw [if_pos e, e]
    rcases ho with ⟨rfl, rfl⟩ | ⟨rfl, rfl⟩ | ⟨rfl, rfl⟩
    · rw [capsF_1 _ (by omega) (hk.2 (.inl rfl)), lim_same m h]
    · rw [capsF_2 _ (by omega) (hk.2 (.inr rfl)), lim_same m h]
    · rw [capsF_3 _ (by omega), lim_same m h]
  · rw [if_neg e]
    unfold capsF
    split
    · rw [lim_other]; omega
    · split
      · rw [lim_other]; omega
      · rw [lim_other]; omega
/-- Keys that may be. -/
def KeysL (m : Lims) : Prop := ∀ x ∈ m, 1 ≤ x.1.2 ∧ x.1.2 ≤ mostOf x.1.1
theorem KeysL.out {m : Lims} (h : KeysL m) {s k : Int} (hn : ¬ (1 ≤ k ∧ k ≤ mostOf s)) : lim m s k = 0 := by
  unfold lim
  rw [show mget m (s, k) = none by
    rw [mget_none]
    intro x hx e
    have := h x hx
    rw [e] at this
    exact hn this]
  rfl

set_option maxHeartbeats 1000000 in
set_option maxRecDepth 100000 in
theorem capsRefSet_ok {w : World} {g : Nat} {m : Lims} (h : Arr w g 47 (capsF m)) (s k v : Int) (ho : limOK s k v = true) :
    Calls Tryd.prog 13 #[.pointer (some ⟨g, 0, none⟩), .int .i64 s, .int .i64 k, .int .i64 v] w fun e w' => e = .returned (.int .i64 0) ∧ Arr w' g 47 (capsF (lset m s k v)) ∧ Keep (fun x => x = g) w w' := by
  have hh := ho
  have hs := limOK_s ho
  simp only [limOK, decide_eq_true_eq] at hh
  have ha : isAmt v = true := decide_eq_true (by omega)
  have hk1 : decide (k < 1) = false := decide_eq_false (by omega)
  have hss : s = 1 ∨ s = 2 ∨ s = 3 := by omega
  rcases hss with rfl | rfl | rfl
  · have hkm : k ≤ 6 := hh.2.1
    have hq : 0 ≤ k ∧ k < 7 := by omega
    have hx := h.cell k.toNat (by omega)
    have hf := h.free k.toNat (by omega)
    have HF := Lib.hid (And.intro ((h.set (j0 := k.toNat) (by omega) (.int .i64 v)).congr (capsF_put m ho (.inl ⟨rfl, rfl⟩))) (keep_setCell w ⟨g, k.toNat, none⟩ (.int .i64 v)))
    rw [capsF_1 m (by omega) hkm] at hx
    clear h ho hh hs
    go_enter Tryd.func13, Tryd.ntmps13
    go_wp2_with fail
    refine (amount10I_calls _ _).mono ?_
    rintro e _ ⟨rfl, rfl⟩
    rw [ha]
    go_wp2_with fail
    go_ret
    exact ⟨rfl, HF.out⟩
  · have hkm : k ≤ 6 := hh.2.1
    have hq : 0 ≤ k ∧ k < 7 := by omega
    have hx := h.cell (7 + k.toNat) (by omega)
    have hf := h.free (7 + k.toNat) (by omega)
    have HF := Lib.hid (And.intro ((h.set (j0 := 7 + k.toNat) (by omega) (.int .i64 v)).congr (capsF_put m ho (.inr (.inl ⟨rfl, rfl⟩)))) (keep_setCell w ⟨g, 7 + k.toNat, none⟩ (.int .i64 v)))
    rw [capsF_2 m (by omega) hkm] at hx
    clear h ho hh hs
    go_enter Tryd.func13, Tryd.ntmps13
    go_wp2_with fail
    refine (amount10I_calls _ _).mono ?_
    rintro e _ ⟨rfl, rfl⟩
    rw [ha]
    go_wp2_with fail
    go_ret
    exact ⟨rfl, HF.out⟩
  · have hkm : k ≤ 32 := hh.2.1
    have hq : 0 ≤ k ∧ k < 33 := by omega
    have hx := h.cell (14 + k.toNat) (by omega)
    have hf := h.free (14 + k.toNat) (by omega)
    have HF := Lib.hid (And.intro ((h.set (j0 := 14 + k.toNat) (by omega) (.int .i64 v)).congr (capsF_put m ho (.inr (.inr ⟨rfl, rfl⟩)))) (keep_setCell w ⟨g, 14 + k.toNat, none⟩ (.int .i64 v)))
    rw [capsF_3 m (by omega)] at hx
    clear h ho hh hs
    go_enter Tryd.func13, Tryd.ntmps13
    go_wp2_with fail
    refine (amount10I_calls _ _).mono ?_
    rintro e _ ⟨rfl, rfl⟩
    rw [ha]
    go_wp2_with fail
    go_ret
    exact ⟨rfl, HF.out⟩

set_option maxHeartbeats 1000000 in
set_option maxRecDepth 100000 in
theorem capsRefSet_bad {w : World} {g : Nat} (s k v : Int) (ho : limOK s k v = false) :
    Calls Tryd.prog 13 #[.pointer (some ⟨g, 0, none⟩), .int .i64 s, .int .i64 k, .int .i64 v] w fun e w' => e = .returned (.int .i64 103) ∧ w = w' := by
  simp only [limOK, decide_eq_false_iff_not] at ho
  cases ha : isAmt v with
  | false =>
    clear ho
    go_enter Tryd.func13, Tryd.ntmps13
    go_wp2_with fail
    refine (amount10I_calls _ _).mono ?_
    rintro e _ ⟨rfl, rfl⟩
    rw [ha]
    go_wp2_with fail
    go_ret
    exact ⟨rfl, rfl⟩
  | true =>
    have hv := of_decide_eq_true ha
    by_cases hk : k < 1
    · have hk1 : decide (k < 1) = true := decide_eq_true hk
      clear ho hv hk
      go_enter Tryd.func13, Tryd.ntmps13
      go_wp2_with fail
      refine (amount10I_calls _ _).mono ?_
      rintro e _ ⟨rfl, rfl⟩
      rw [ha]
      go_wp2_with fail
      go_ret
      exact ⟨rfl, rfl⟩
    · have hk1 : decide (k < 1) = false := decide_eq_false hk
      have hm : mostOf s < k := by omega
      unfold mostOf at hm
      clear ho hv hk
      by_cases h1 : s = 1
      · subst h1
        have h2 : decide (k ≤ 6) = false := decide_eq_false (by simp at hm; omega)
        clear hm
        go_enter Tryd.func13, Tryd.ntmps13
        go_wp2_with fail
        refine (amount10I_calls _ _).mono ?_
        rintro e _ ⟨rfl, rfl⟩
        rw [ha]
        go_wp2_with fail
        go_ret
        exact ⟨rfl, rfl⟩
      · by_cases h2 : s = 2
        · subst h2
          have h2 : decide (k ≤ 6) = false := decide_eq_false (by simp at hm; omega)
          clear hm
          go_enter Tryd.func13, Tryd.ntmps13
          go_wp2_with fail
          refine (amount10I_calls _ _).mono ?_
          rintro e _ ⟨rfl, rfl⟩
          rw [ha]
          go_wp2_with fail
          go_ret
          exact ⟨rfl, rfl⟩
        · by_cases h3 : s = 3
          · subst h3
            have h2 : decide (k ≤ 32) = false := decide_eq_false (by simp at hm; omega)
            clear hm
            go_enter Tryd.func13, Tryd.ntmps13
            go_wp2_with fail
            refine (amount10I_calls _ _).mono ?_
            rintro e _ ⟨rfl, rfl⟩
            rw [ha]
            go_wp2_with fail
            go_ret
            exact ⟨rfl, rfl⟩
          · have e1 : (s == 1) = false := by simpa using h1
            have e2 : (s == 2) = false := by simpa using h2
            have e3 : (s == 3) = false := by simpa using h3
            clear hm h1 h2 h3
            go_enter Tryd.func13, Tryd.ntmps13
            go_wp2_with fail
            refine (amount10I_calls _ _).mono ?_
            rintro e _ ⟨rfl, rfl⟩
            rw [ha]
            go_wp2_with fail
            go_ret
            exact ⟨rfl, rfl⟩

set_option maxHeartbeats 1000000 in
set_option maxRecDepth 100000 in
theorem capsRefGet_calls {w : World} {g : Nat} {m : Lims} (h : Arr w g 47 (capsF m)) (hk : KeysL m) (s k : Int) :
    Calls Tryd.prog 14 #[.pointer (some ⟨g, 0, none⟩), .int .i64 s, .int .i64 k] w fun e w' => e = .returned (.int .i64 (lim m s k)) ∧ w = w' := by
  have hz : ∀ s, ¬ (1 ≤ k ∧ k ≤ mostOf s) → lim m s k = 0 := fun s hn => hk.out hn
  by_cases h1 : s = 1
  · subst h1
    by_cases hb : 1 ≤ k ∧ k ≤ 6
    · have hq : 0 ≤ k ∧ k < 7 := by omega
      have hd : decide (1 ≤ k ∧ k ≤ 6) = true := decide_eq_true hb
      have hx := h.cell k.toNat (by omega)
      rw [capsF_1 m (by omega) hb.2] at hx
      clear h hk hz hb
      generalize lim m 1 k = v at *
      go_enter Tryd.func14, Tryd.ntmps14
      go_wp2_with fail
      refine (in10I_calls _ _ _ _).mono ?_
      rintro e _ ⟨rfl, rfl⟩
      rw [hd]
      go_wp2_with fail
      go_ret
      exact ⟨rfl, rfl⟩
    · have hd : decide (1 ≤ k ∧ k ≤ 6) = false := decide_eq_false hb
      rw [hz 1 hb]
      clear h hk hz hb
      go_enter Tryd.func14, Tryd.ntmps14
      go_wp2_with fail
      refine (in10I_calls _ _ _ _).mono ?_
      rintro e _ ⟨rfl, rfl⟩
      rw [hd]
      go_wp2_with fail
      go_ret
      exact ⟨rfl, rfl⟩
  · by_cases h2 : s = 2
    · subst h2
      by_cases hb : 1 ≤ k ∧ k ≤ 6
      · have hq : 0 ≤ k ∧ k < 7 := by omega
        have hd : decide (1 ≤ k ∧ k ≤ 6) = true := decide_eq_true hb
        have hx := h.cell (7 + k.toNat) (by omega)
        rw [capsF_2 m (by omega) hb.2] at hx
        clear h hk hz hb
        generalize lim m 2 k = v at *
        go_enter Tryd.func14, Tryd.ntmps14
        go_wp2_with fail
        refine (in10I_calls _ _ _ _).mono ?_
        rintro e _ ⟨rfl, rfl⟩
        rw [hd]
        go_wp2_with fail
        go_ret
        exact ⟨rfl, rfl⟩
      · have hd : decide (1 ≤ k ∧ k ≤ 6) = false := decide_eq_false hb
        rw [hz 2 hb]
        clear h hk hz hb
        go_enter Tryd.func14, Tryd.ntmps14
        go_wp2_with fail
        refine (in10I_calls _ _ _ _).mono ?_
        rintro e _ ⟨rfl, rfl⟩
        rw [hd]
        go_wp2_with fail
        go_ret
        exact ⟨rfl, rfl⟩
    · by_cases h3 : s = 3
      · subst h3
        by_cases hb : 1 ≤ k ∧ k ≤ 32
        · have hq : 0 ≤ k ∧ k < 33 := by omega
          have hd : decide (1 ≤ k ∧ k ≤ 32) = true := decide_eq_true hb
          have hx := h.cell (14 + k.toNat) (by omega)
          rw [capsF_3 m (by omega)] at hx
          clear h hk hz hb
          generalize lim m 3 k = v at *
          go_enter Tryd.func14, Tryd.ntmps14
          go_wp2_with fail
          refine (in10I_calls _ _ _ _).mono ?_
          rintro e _ ⟨rfl, rfl⟩
          rw [hd]
          go_wp2_with fail
          go_ret
          exact ⟨rfl, rfl⟩
        · have hd : decide (1 ≤ k ∧ k ≤ 32) = false := decide_eq_false hb
          rw [hz 3 hb]
          clear h hk hz hb
          go_enter Tryd.func14, Tryd.ntmps14
          go_wp2_with fail
          refine (in10I_calls _ _ _ _).mono ?_
          rintro e _ ⟨rfl, rfl⟩
          rw [hd]
          go_wp2_with fail
          go_ret
          exact ⟨rfl, rfl⟩
      · rw [hz s (by unfold mostOf; rw [if_neg h1, if_neg h2, if_neg h3]; omega)]
        have e1 : (s == 1) = false := by simpa using h1
        have e2 : (s == 2) = false := by simpa using h2
        have e3 : (s == 3) = false := by simpa using h3
        clear h hk hz h1 h2 h3
        go_enter Tryd.func14, Tryd.ntmps14
        go_wp2
        go_ret
        exact ⟨rfl, rfl⟩
end Go.Proofs.YtkdmedmlbglgmaaDoor
