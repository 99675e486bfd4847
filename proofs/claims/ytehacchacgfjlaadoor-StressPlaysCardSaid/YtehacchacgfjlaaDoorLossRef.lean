/- Package pledgeref10: amount, Losses.Set, Get; Top: what each call returns and leaves. -/
import Derived.Test.YtehacchacgfjlaaDoorCutsRef
import Derived.Test.YtehacchacgfjlaaDoorCover
import Derived.Test.YtehacchacgfjlaaDoorTab
namespace Go.Proofs.YtehacchacgfjlaaDoor
open Go.Maps
open Go Go.RowKit
set_option linter.unusedSimpArgs false
set_option linter.unusedVariables false

theorem amount10_calls (n : Int) (w : World) : Calls Tryd.prog 95 #[.int .i64 n] w fun e w' => e = .returned (.bool (isAmt n)) ∧ w = w' := by
  by_cases h : 0 ≤ n
  · have h' : decide (0 ≤ n) = true := decide_eq_true h
    rw [show isAmt n = decide (n ≤ 1000000000000000) from decide_eq_decide.2 (by omega)]
    go_enter Tryd.func95, Tryd.ntmps95
    go_wp2
    go_ret
    exact ⟨rfl, rfl⟩
  · have h' : decide (0 ≤ n) = false := decide_eq_false h
    rw [show isAmt n = false from decide_eq_false (by omega)]
    go_enter Tryd.func95, Tryd.ntmps95
    go_wp2
    go_ret
    exact ⟨rfl, rfl⟩

abbrev LossM := List ((Int × Int) × Int)
/-- What the reference's losses' cells read. -/
def lossF (m : LossM) (j : Nat) : Value := .int .i64 ((mget m (((j / 33 : Nat) : Int), ((j % 33 : Nat) : Int))).getD 0)
theorem lossF_at (m : LossM) {s k : Int} (h1 : 0 ≤ s) (h3 : 0 ≤ k) (h4 : k ≤ 32) : lossF m (s.toNat * 33 + k.toNat) = .int .i64 ((mget m (s, k)).getD 0) := by
  unfold lossF
  rw [show (((s.toNat * 33 + k.toNat) / 33 : Nat) : Int) = s by omega, show (((s.toNat * 33 + k.toNat) % 33 : Nat) : Int) = k by omega]
theorem mset_get_same (m : LossM) (k : Int × Int) (v : Int) : (mget (mset m k v) k).getD 0 = v := by
  unfold mset
  split
  · rename_i h
    rw [mget_mdel_same, h]; rfl
  · rw [mget_mput_same]; rfl
theorem mset_get_other (m : LossM) {k j : Int × Int} (v : Int) (h : j ≠ k) : (mget (mset m k v) j).getD 0 = (mget m j).getD 0 := by
  unfold mset
  split
  · rw [mget_mdel_other _ h, mget_mput_other _ _ h]
  · rw [mget_mput_other _ _ h]
theorem lossF_put (m : LossM) {s k : Int} (v : Int) (h1 : 0 ≤ s) (h3 : 0 ≤ k) (h4 : k ≤ 32) (j : Nat) (hj : j < 561) :
    (if j = s.toNat * 33 + k.toNat then .int .i64 v else lossF m j) = lossF (mset m (s, k) v) j := by
  by_cases e1 : j = s.toNat * 33 + k.toNat
  · rw [if_pos e1, e1, lossF_at _ h1 h3 h4, mset_get_same]
  · rw [if_neg e1]
    unfold lossF
    rw [mset_get_other]
    intro e
    have := (Prod.mk.injEq ..).mp e
    omega
/-- Keys that may be. -/
def KeysS (m : LossM) : Prop := ∀ x ∈ m, 1 ≤ x.1.1 ∧ x.1.1 ≤ 16 ∧ 1 ≤ x.1.2 ∧ x.1.2 ≤ 32
theorem KeysS.out {m : LossM} (h : KeysS m) {c b : Int} (hn : ¬ (1 ≤ c ∧ c ≤ 16 ∧ 1 ≤ b ∧ b ≤ 32)) : mget m (c, b) = none := by
  rw [mget_none]
  intro x hx e
  have := h x hx
  rw [e] at this
  exact hn this

set_option maxHeartbeats 1000000 in
set_option maxRecDepth 100000 in
theorem lossGet_calls {w : World} {g : Nat} {m : LossM} (h : Arr w g 561 (lossF m)) (hk : KeysS m) (c b : Int) :
    Calls Tryd.prog 62 #[.pointer (some ⟨g, 0, none⟩), .int .i64 c, .int .i64 b] w fun e w' => e = .returned (.int .i64 ((mget m (c, b)).getD 0)) ∧ w = w' := by
  by_cases hc : 1 ≤ c ∧ c ≤ 16
  · by_cases hb : 1 ≤ b ∧ b ≤ 32
    · obtain ⟨h1, h2⟩ := hc
      obtain ⟨h3, h4⟩ := hb
      have hx := h.cell (c.toNat * 33 + b.toNat) (by omega)
      rw [lossF_at m (by omega) (by omega) h4] at hx
      clear h hk
      generalize (mget m (c, b)).getD 0 = v at *
      go_enter Tryd.func62, Tryd.ntmps62
      go_wp2_with fail
      refine (in10_calls _ _ _ _).mono ?_
      rintro e _ ⟨rfl, rfl⟩
      rw [show decide (1 ≤ c ∧ c ≤ 16) = true from decide_eq_true ⟨h1, h2⟩]
      go_wp2_with fail
      refine (in10_calls _ _ _ _).mono ?_
      rintro e _ ⟨rfl, rfl⟩
      rw [show decide (1 ≤ b ∧ b ≤ 32) = true from decide_eq_true ⟨h3, h4⟩]
      go_wp2_with fail
      go_ret
      exact ⟨rfl, rfl⟩
    · rw [hk.out (fun h' => hb ⟨h'.2.2.1, h'.2.2.2⟩)]
      clear h hk
      go_enter Tryd.func62, Tryd.ntmps62
      go_wp2_with fail
      refine (in10_calls _ _ _ _).mono ?_
      rintro e _ ⟨rfl, rfl⟩
      rw [show decide (1 ≤ c ∧ c ≤ 16) = true from decide_eq_true hc]
      go_wp2_with fail
      refine (in10_calls _ _ _ _).mono ?_
      rintro e _ ⟨rfl, rfl⟩
      rw [show decide (1 ≤ b ∧ b ≤ 32) = false from decide_eq_false hb]
      go_wp2_with fail
      go_ret
      exact ⟨rfl, rfl⟩
  · rw [hk.out (fun h' => hc ⟨h'.1, h'.2.1⟩)]
    clear h hk
    go_enter Tryd.func62, Tryd.ntmps62
    go_wp2_with fail
    refine (in10_calls _ _ _ _).mono ?_
    rintro e _ ⟨rfl, rfl⟩
    rw [show decide (1 ≤ c ∧ c ≤ 16) = false from decide_eq_false hc]
    go_wp2_with fail
    go_ret
    exact ⟨rfl, rfl⟩

set_option maxHeartbeats 1000000 in
set_option maxRecDepth 100000 in
theorem lossSet_ok {w : World} {g : Nat} {m : LossM} (h : Arr w g 561 (lossF m)) (c b v : Int) (h1 : 1 ≤ c) (h2 : c ≤ 16) (h3 : 1 ≤ b) (h4 : b ≤ 32) (h5 : isAmt v = true) :
    Calls Tryd.prog 53 #[.pointer (some ⟨g, 0, none⟩), .int .i64 c, .int .i64 b, .int .i64 v] w fun e w' => e = .returned (.int .i64 0) ∧ Arr w' g 561 (lossF (mset m (c, b) v)) ∧ Keep (fun x => x = g) w w' := by
  have hx := h.cell (c.toNat * 33 + b.toNat) (by omega)
  have hf := h.free (c.toNat * 33 + b.toNat) (by omega)
  have HF := Lib.hid (And.intro ((h.set (j0 := c.toNat * 33 + b.toNat) (by omega) (.int .i64 v)).congr (lossF_put m v (by omega) (by omega) h4)) (keep_setCell w ⟨g, c.toNat * 33 + b.toNat, none⟩ (.int .i64 v)))
  rw [lossF_at m (by omega) (by omega) h4] at hx
  clear h
  generalize (mget m (c, b)).getD 0 = v0 at *
  go_enter Tryd.func53, Tryd.ntmps53
  go_wp2_with fail
  refine (in10_calls _ _ _ _).mono ?_
  rintro e _ ⟨rfl, rfl⟩
  rw [show decide (1 ≤ c ∧ c ≤ 16) = true from decide_eq_true ⟨h1, h2⟩]
  go_wp2_with fail
  refine (in10_calls _ _ _ _).mono ?_
  rintro e _ ⟨rfl, rfl⟩
  rw [show decide (1 ≤ b ∧ b ≤ 32) = true from decide_eq_true ⟨h3, h4⟩]
  go_wp2_with fail
  refine (amount10_calls _ _).mono ?_
  rintro e _ ⟨rfl, rfl⟩
  rw [h5]
  go_wp2_with fail
  go_ret
  exact ⟨rfl, HF.out⟩
theorem lossSet_bad {w : World} {g : Nat} (c b v : Int) (h : cellOK c b v = false) :
    Calls Tryd.prog 53 #[.pointer (some ⟨g, 0, none⟩), .int .i64 c, .int .i64 b, .int .i64 v] w fun e w' => e = .returned (.int .i64 103) ∧ w = w' := by
  simp only [cellOK, decide_eq_false_iff_not] at h
  by_cases hc : 1 ≤ c ∧ c ≤ 16
  · by_cases hb : 1 ≤ b ∧ b ≤ 32
    · have hv : isAmt v = false := decide_eq_false (by omega)
      clear h
      go_enter Tryd.func53, Tryd.ntmps53
      go_wp2_with fail
      refine (in10_calls _ _ _ _).mono ?_
      rintro e _ ⟨rfl, rfl⟩
      rw [show decide (1 ≤ c ∧ c ≤ 16) = true from decide_eq_true hc]
      go_wp2_with fail
      refine (in10_calls _ _ _ _).mono ?_
      rintro e _ ⟨rfl, rfl⟩
      rw [show decide (1 ≤ b ∧ b ≤ 32) = true from decide_eq_true hb]
      go_wp2_with fail
      refine (amount10_calls _ _).mono ?_
      rintro e _ ⟨rfl, rfl⟩
      rw [hv]
      go_wp2_with fail
      go_ret
      exact ⟨rfl, rfl⟩
    · clear h
      go_enter Tryd.func53, Tryd.ntmps53
      go_wp2_with fail
      refine (in10_calls _ _ _ _).mono ?_
      rintro e _ ⟨rfl, rfl⟩
      rw [show decide (1 ≤ c ∧ c ≤ 16) = true from decide_eq_true hc]
      go_wp2_with fail
      refine (in10_calls _ _ _ _).mono ?_
      rintro e _ ⟨rfl, rfl⟩
      rw [show decide (1 ≤ b ∧ b ≤ 32) = false from decide_eq_false hb]
      go_wp2_with fail
      go_ret
      exact ⟨rfl, rfl⟩
  · clear h
    go_enter Tryd.func53, Tryd.ntmps53
    go_wp2_with fail
    refine (in10_calls _ _ _ _).mono ?_
    rintro e _ ⟨rfl, rfl⟩
    rw [show decide (1 ≤ c ∧ c ≤ 16) = false from decide_eq_false hc]
    go_wp2_with fail
    go_ret
    exact ⟨rfl, rfl⟩

/-- A number and an error's number, as the two results. -/
def resN : Except Nat Int → Value
  | .ok n => .tuple #[.int .i64 n, .int .i64 0]
  | .error k => .tuple #[.int .i64 0, .int .i64 (101 + (k : Int))]

set_option maxRecDepth 100000 in
theorem topRef_calls {w : World} {v : Value} {xs : List Int} (hv : SlI w v xs) :
    Calls Tryd.prog 60 #[v] w fun e w' => e = .returned (resN (topR xs)) ∧ w = w' := by
  obtain ⟨a, cap, rfl, hcap, hmx, hcells⟩ := hv
  unfold maxLen at hmx
  have HC : Hid (xs = [] ∨ ∃ b off, a = some ⟨b, off, none⟩ ∧ b < w.heap.size ∧ ∀ i, i < xs.length → w.cell? ⟨b, off + i, none⟩ = some (.int .i64 (xs.getD i 0))) := hcells
  clear hcells
  go_enter Tryd.func60, Tryd.ntmps60
  go_wp2_with fail
  go_loop [6, 4, 5] (fun i f s => ∃ m : Nat, m ≤ xs.length ∧ i = .int .i64 m ∧ f = .int .i64 (topGo (xs.take m)).1 ∧ s = .int .i64 (topGo (xs.take m)).2 ∧ Hid ((xs.take m).all isAmt = true)) (fun i _ _ => xs.length - (intOf i).toNat)
  case atStart => exact ⟨0, Nat.zero_le _, rfl, rfl, rfl, rfl⟩
  case round =>
    obtain ⟨m, hm, rfl, rfl, rfl, hall⟩ := hrel
    have hbd := topGo_bd _ hall.out
    by_cases hlt : m < xs.length
    · obtain ⟨b, off, rfl, hb, hcell⟩ := HC.out.resolve_left (by intro e; rw [e] at hlt; simp at hlt)
      have hc := hcell m hlt
      have HS := Lib.hid (take_snoc hlt)
      have HX := Lib.hid (show xs.getD m 0 ∈ xs by simp [List.getD, hlt])
      generalize xs.getD m 0 = x at hc HS HX
      have HG := Lib.hid (topGo_snoc (xs.take m) x)
      generalize topGo (xs.take m) = s at hbd HG ⊢
      obtain ⟨s1, s2⟩ := s
      simp only at hbd ⊢
      clear hcell
      go_wp2_with fail
      refine (amount10_calls _ _).mono ?_
      rintro e _ ⟨rfl, rfl⟩
      cases hx : isAmt x with
      | false =>
        have HR : Hid (resN (topR xs) = .tuple #[.int .i64 0, .int .i64 103]) := by
          unfold Hid topR
          rw [if_neg (by intro h; have := List.all_eq_true.1 h x HX.out; rw [hx] at this; cases this)]
          rfl
        clear hx
        go_wp2_with fail
        go_ret2
        exact ⟨by rw [HR.out]; rfl, rfl⟩
      | true =>
        have HA : Hid ((xs.take (m + 1)).all isAmt = true) := by
          unfold Hid
          rw [HS.out, List.all_append, hall.out]
          simp [hx]
        clear hx
        by_cases h1 : s1 < x
        · have HT : Hid (topGo (xs.take (m + 1)) = (x, s1)) := by unfold Hid; rw [HS.out, HG.out]; simp [topStep, h1]
          go_wp2_with fail
          go_round
          case rel => exact ⟨m + 1, by omega, by go_num, by rw [HT.out], by rw [HT.out] <;> (first | rfl | (congr 1; split <;> (first | rfl | (simp only; omega)))), HA⟩
          case measure => simp [intOf]; omega
        · by_cases h2 : s2 < x
          · have HT : Hid (topGo (xs.take (m + 1)) = (s1, x)) := by unfold Hid; rw [HS.out, HG.out]; simp [topStep, h1, h2]
            go_wp2_with fail
            go_round
            case rel => exact ⟨m + 1, by omega, by go_num, by rw [HT.out], by rw [HT.out] <;> (first | rfl | (congr 1; split <;> (first | rfl | (simp only; omega)))), HA⟩
            case measure => simp [intOf]; omega
          · have HT : Hid (topGo (xs.take (m + 1)) = (s1, s2)) := by unfold Hid; rw [HS.out, HG.out]; simp [topStep, h1, h2]
            go_wp2_with fail
            go_round
            case rel => exact ⟨m + 1, by omega, by go_num, by rw [HT.out], by rw [HT.out] <;> (first | rfl | (congr 1; split <;> (first | rfl | (simp only; omega)))), HA⟩
            case measure => simp [intOf]; omega
    · obtain rfl : m = xs.length := by omega
      rw [List.take_length] at hall hbd ⊢
      have HR : Hid (resN (topR xs) = if (topGo xs).1 + (topGo xs).2 ≤ 1000000000000000 then .tuple #[.int .i64 ((topGo xs).1 + (topGo xs).2), .int .i64 0] else .tuple #[.int .i64 0, .int .i64 104]) := by
        unfold Hid topR
        rw [if_pos hall.out]
        split <;> rfl
      clear hall
      generalize topGo xs = s at hbd HR ⊢
      obtain ⟨s1, s2⟩ := s
      simp only at hbd HR ⊢
      by_cases hs : s1 + s2 ≤ 1000000000000000
      · have HR2 := Lib.hid (HR.out.trans (if_pos hs))
        clear HR
        go_wp2_with fail
        go_ret2
        exact ⟨by rw [HR2.out]; rfl, rfl⟩
      · have HR2 := Lib.hid (HR.out.trans (if_neg hs))
        clear HR
        go_wp2_with fail
        go_ret2
        exact ⟨by rw [HR2.out]; rfl, rfl⟩
end Go.Proofs.YtehacchacgfjlaaDoor
