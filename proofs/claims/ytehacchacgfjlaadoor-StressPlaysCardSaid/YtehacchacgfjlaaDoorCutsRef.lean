/- Package pledgeref10: Cuts: what each method returns and leaves. -/
import Derived.Test.YtehacchacgfjlaaDoorRef10
import Derived.Test.YtehacchacgfjlaaDoorPlayKit
namespace Go.Proofs.YtehacchacgfjlaaDoor
open Go.Maps
open Go Go.RowKit
set_option linter.unusedSimpArgs false
set_option linter.unusedVariables false

/-- What the reference's cuts' cells read. -/
def cutsF (m : List ((Int × Int) × Int)) (fx : Int) (j : Nat) : Value :=
  if j < 36 then .int .i64 ((mget m (((j / 6 : Nat) : Int) + 1, ((j % 6 : Nat) : Int))).getD 0) else if j < 72 then .bool (mget m ((((j - 36) / 6 : Nat) : Int) + 1, (((j - 36) % 6 : Nat) : Int))).isSome else .int .i64 fx

/-- Keys that may be. -/
def KeysC (m : List ((Int × Int) × Int)) : Prop := ∀ x ∈ m, 1 ≤ x.1.1 ∧ x.1.1 ≤ 6 ∧ 0 ≤ x.1.2 ∧ x.1.2 ≤ 5
theorem KeysC.out {m : List ((Int × Int) × Int)} (h : KeysC m) {c b : Int} (hn : ¬ (1 ≤ c ∧ c ≤ 6 ∧ 0 ≤ b ∧ b ≤ 5)) : mget m (c, b) = none := by
  rw [mget_none]
  intro x hx e
  have := h x hx
  rw [e] at this
  exact hn this
theorem cutsF_bp (m : List ((Int × Int) × Int)) (fx : Int) {c b : Int} (h1 : 1 ≤ c) (h2 : c ≤ 6) (h3 : 0 ≤ b) (h4 : b ≤ 5) : cutsF m fx ((c.toNat - 1) * 6 + b.toNat) = .int .i64 ((mget m (c, b)).getD 0) := by
  unfold cutsF
  rw [if_pos (by omega), show ((((c.toNat - 1) * 6 + b.toNat) / 6 : Nat) : Int) + 1 = c by omega, show ((((c.toNat - 1) * 6 + b.toNat) % 6 : Nat) : Int) = b by omega]
theorem cutsF_is (m : List ((Int × Int) × Int)) (fx : Int) {c b : Int} (h1 : 1 ≤ c) (h2 : c ≤ 6) (h3 : 0 ≤ b) (h4 : b ≤ 5) : cutsF m fx (36 + (c.toNat - 1) * 6 + b.toNat) = .bool (mget m (c, b)).isSome := by
  unfold cutsF
  rw [if_neg (by omega), if_pos (by omega), show (((36 + (c.toNat - 1) * 6 + b.toNat - 36) / 6 : Nat) : Int) + 1 = c by omega, show (((36 + (c.toNat - 1) * 6 + b.toNat - 36) % 6 : Nat) : Int) = b by omega]
theorem cutsF_put (m : List ((Int × Int) × Int)) (fx : Int) {c b : Int} (v : Int) (h1 : 1 ≤ c) (h2 : c ≤ 6) (h3 : 0 ≤ b) (h4 : b ≤ 5) (j : Nat) (hj : j < 73) :
    (if j = 36 + (c.toNat - 1) * 6 + b.toNat then .bool true else if j = (c.toNat - 1) * 6 + b.toNat then .int .i64 v else cutsF m fx j) = cutsF (mput m (c, b) v) fx j := by
  by_cases e1 : j = 36 + (c.toNat - 1) * 6 + b.toNat
  · rw [if_pos e1, e1, cutsF_is _ _ h1 h2 h3 h4, mget_mput_same]; rfl
  · rw [if_neg e1]
    by_cases e2 : j = (c.toNat - 1) * 6 + b.toNat
    · rw [if_pos e2, e2, cutsF_bp _ _ h1 h2 h3 h4, mget_mput_same]; rfl
    · rw [if_neg e2]
      unfold cutsF
      by_cases l1 : j < 36
      · rw [if_pos l1, if_pos l1, mget_mput_other]
        intro e
        have := (Prod.mk.injEq ..).mp e
        omega
      · rw [if_neg l1, if_neg l1]
        by_cases l2 : j < 72
        · rw [if_pos l2, if_pos l2, mget_mput_other]
          intro e
          have := (Prod.mk.injEq ..).mp e
          omega
        · rw [if_neg l2, if_neg l2]
theorem cutsF_fx (m : List ((Int × Int) × Int)) (fx fx' : Int) (j : Nat) (hj : j < 73) : (if j = 72 then .int .i64 fx' else cutsF m fx j) = cutsF m fx' j := by
  unfold cutsF
  by_cases e : j = 72
  · rw [if_pos e, if_neg (by omega), if_neg (by omega)]
  · rw [if_neg e]
    by_cases l1 : j < 36
    · rw [if_pos l1, if_pos l1]
    · rw [if_neg l1, if_neg l1, if_pos (by omega), if_pos (by omega)]

set_option maxHeartbeats 1000000 in
set_option maxRecDepth 100000 in
theorem cutsGet_calls {w : World} {g : Nat} {m : List ((Int × Int) × Int)} {fx : Int} (h : Arr w g 73 (cutsF m fx)) (hk : KeysC m) (c b : Int) :
    Calls Tryd.prog 48 #[.pointer (some ⟨g, 0, none⟩), .int .i64 c, .int .i64 b] w fun e w' => e = .returned (.int .i64 ((mget m (c, b)).getD 0)) ∧ w = w' := by
  by_cases hc : 1 ≤ c ∧ c ≤ 6
  · by_cases hb : 0 ≤ b ∧ b ≤ 5
    · obtain ⟨h1, h2⟩ := hc
      obtain ⟨h3, h4⟩ := hb
      have hx := h.cell ((c.toNat - 1) * 6 + b.toNat) (by omega)
      rw [cutsF_bp m fx h1 h2 h3 h4] at hx
      clear h hk
      generalize (mget m (c, b)).getD 0 = v at *
      go_enter Tryd.func48, Tryd.ntmps48
      go_wp2_with fail
      refine (in10_calls _ _ _ _).mono ?_
      rintro e _ ⟨rfl, rfl⟩
      rw [show decide (1 ≤ c ∧ c ≤ 6) = true from decide_eq_true ⟨h1, h2⟩]
      go_wp2_with fail
      refine (in10_calls _ _ _ _).mono ?_
      rintro e _ ⟨rfl, rfl⟩
      rw [show decide (0 ≤ b ∧ b ≤ 5) = true from decide_eq_true ⟨h3, h4⟩]
      go_wp2_with fail
      go_ret
      exact ⟨rfl, rfl⟩
    · rw [hk.out (fun h' => hb ⟨h'.2.2.1, h'.2.2.2⟩)]
      clear h hk
      go_enter Tryd.func48, Tryd.ntmps48
      go_wp2_with fail
      refine (in10_calls _ _ _ _).mono ?_
      rintro e _ ⟨rfl, rfl⟩
      rw [show decide (1 ≤ c ∧ c ≤ 6) = true from decide_eq_true hc]
      go_wp2_with fail
      refine (in10_calls _ _ _ _).mono ?_
      rintro e _ ⟨rfl, rfl⟩
      rw [show decide (0 ≤ b ∧ b ≤ 5) = false from decide_eq_false hb]
      go_wp2_with fail
      go_ret
      exact ⟨rfl, rfl⟩
  · rw [hk.out (fun h' => hc ⟨h'.1, h'.2.1⟩)]
    clear h hk
    go_enter Tryd.func48, Tryd.ntmps48
    go_wp2_with fail
    refine (in10_calls _ _ _ _).mono ?_
    rintro e _ ⟨rfl, rfl⟩
    rw [show decide (1 ≤ c ∧ c ≤ 6) = false from decide_eq_false hc]
    go_wp2_with fail
    go_ret
    exact ⟨rfl, rfl⟩

set_option maxHeartbeats 1000000 in
set_option maxRecDepth 100000 in
theorem cutsSet_ok {w : World} {g : Nat} {m : List ((Int × Int) × Int)} {fx : Int} (h : Arr w g 73 (cutsF m fx)) (c b bp : Int) (h1 : 1 ≤ c) (h2 : c ≤ 6) (h3 : 0 ≤ b) (h4 : b ≤ 5) (h5 : 0 ≤ bp) (h6 : bp ≤ 10000) :
    Calls Tryd.prog 45 #[.pointer (some ⟨g, 0, none⟩), .int .i64 c, .int .i64 b, .int .i64 bp] w fun e w' => e = .returned (.int .i64 0) ∧ Arr w' g 73 (cutsF (mput m (c, b) bp) fx) ∧ Keep (fun x => x = g) w w' := by
  have hx := h.cell ((c.toNat - 1) * 6 + b.toNat) (by omega)
  have hf := h.free ((c.toNat - 1) * 6 + b.toNat) (by omega)
  have h' := h.set (j0 := (c.toNat - 1) * 6 + b.toNat) (by omega) (.int .i64 bp)
  have hx2 := h.cell (36 + (c.toNat - 1) * 6 + b.toNat) (by omega)
  have hf2 := h.free (36 + (c.toNat - 1) * 6 + b.toNat) (by omega)
  have HF := Lib.hid (And.intro ((h'.set (j0 := 36 + (c.toNat - 1) * 6 + b.toNat) (by omega) (.bool true)).congr (cutsF_put m fx bp h1 h2 h3 h4)) ((keep_setCell w ⟨g, (c.toNat - 1) * 6 + b.toNat, none⟩ (.int .i64 bp)).trans (keep_setCell _ ⟨g, 36 + (c.toNat - 1) * 6 + b.toNat, none⟩ (.bool true))))
  rw [cutsF_bp m fx h1 h2 h3 h4] at hx
  rw [cutsF_is m fx h1 h2 h3 h4] at hx2
  clear h h'
  generalize (mget m (c, b)).getD 0 = v at *
  generalize (mget m (c, b)).isSome = v' at *
  go_enter Tryd.func45, Tryd.ntmps45
  go_wp2_with fail
  refine (in10_calls _ _ _ _).mono ?_
  rintro e _ ⟨rfl, rfl⟩
  rw [show decide (1 ≤ c ∧ c ≤ 6) = true from decide_eq_true ⟨h1, h2⟩]
  go_wp2_with fail
  refine (in10_calls _ _ _ _).mono ?_
  rintro e _ ⟨rfl, rfl⟩
  rw [show decide (0 ≤ b ∧ b ≤ 5) = true from decide_eq_true ⟨h3, h4⟩]
  go_wp2_with fail
  go_ret
  exact ⟨rfl, HF.out⟩
theorem cutsSet_bad {w : World} {g : Nat} (c b bp : Int) (h : ¬ (1 ≤ c ∧ c ≤ 6 ∧ 0 ≤ b ∧ b ≤ 5 ∧ 0 ≤ bp ∧ bp ≤ 10000)) :
    Calls Tryd.prog 45 #[.pointer (some ⟨g, 0, none⟩), .int .i64 c, .int .i64 b, .int .i64 bp] w fun e w' => e = .returned (.int .i64 103) ∧ w = w' := by
  by_cases hc : 1 ≤ c ∧ c ≤ 6
  · by_cases hb : 0 ≤ b ∧ b ≤ 5
    · by_cases hp : bp < 0
      · go_enter Tryd.func45, Tryd.ntmps45
        go_wp2_with fail
        refine (in10_calls _ _ _ _).mono ?_
        rintro e _ ⟨rfl, rfl⟩
        rw [show decide (1 ≤ c ∧ c ≤ 6) = true from decide_eq_true hc]
        go_wp2_with fail
        refine (in10_calls _ _ _ _).mono ?_
        rintro e _ ⟨rfl, rfl⟩
        rw [show decide (0 ≤ b ∧ b ≤ 5) = true from decide_eq_true hb]
        go_wp2_with fail
        go_ret
        exact ⟨rfl, rfl⟩
      · have hp1 : decide (bp < 0) = false := decide_eq_false hp
        have hp2 : decide (10000 < bp) = true := decide_eq_true (by omega)
        clear h hp
        go_enter Tryd.func45, Tryd.ntmps45
        go_wp2_with fail
        refine (in10_calls _ _ _ _).mono ?_
        rintro e _ ⟨rfl, rfl⟩
        rw [show decide (1 ≤ c ∧ c ≤ 6) = true from decide_eq_true hc]
        go_wp2_with fail
        refine (in10_calls _ _ _ _).mono ?_
        rintro e _ ⟨rfl, rfl⟩
        rw [show decide (0 ≤ b ∧ b ≤ 5) = true from decide_eq_true hb]
        go_wp2_with fail
        go_ret
        exact ⟨rfl, rfl⟩
    · clear h
      go_enter Tryd.func45, Tryd.ntmps45
      go_wp2_with fail
      refine (in10_calls _ _ _ _).mono ?_
      rintro e _ ⟨rfl, rfl⟩
      rw [show decide (1 ≤ c ∧ c ≤ 6) = true from decide_eq_true hc]
      go_wp2_with fail
      refine (in10_calls _ _ _ _).mono ?_
      rintro e _ ⟨rfl, rfl⟩
      rw [show decide (0 ≤ b ∧ b ≤ 5) = false from decide_eq_false hb]
      go_wp2_with fail
      go_ret
      exact ⟨rfl, rfl⟩
  · clear h
    go_enter Tryd.func45, Tryd.ntmps45
    go_wp2_with fail
    refine (in10_calls _ _ _ _).mono ?_
    rintro e _ ⟨rfl, rfl⟩
    rw [show decide (1 ≤ c ∧ c ≤ 6) = false from decide_eq_false hc]
    go_wp2_with fail
    go_ret
    exact ⟨rfl, rfl⟩
theorem cutsFx_ok {w : World} {g : Nat} {m : List ((Int × Int) × Int)} {fx : Int} (h : Arr w g 73 (cutsF m fx)) (bp : Int) (h5 : 0 ≤ bp) (h6 : bp ≤ 10000) :
    Calls Tryd.prog 47 #[.pointer (some ⟨g, 0, none⟩), .int .i64 bp] w fun e w' => e = .returned (.int .i64 0) ∧ Arr w' g 73 (cutsF m bp) ∧ Keep (fun x => x = g) w w' := by
  have hx := h.cell 72 (by omega)
  have hf := h.free 72 (by omega)
  have HF := Lib.hid (And.intro ((h.set (j0 := 72) (by omega) (.int .i64 bp)).congr (cutsF_fx m fx bp)) (keep_setCell w ⟨g, 72, none⟩ (.int .i64 bp)))
  rw [show cutsF m fx 72 = .int .i64 fx from rfl] at hx
  clear h
  go_enter Tryd.func47, Tryd.ntmps47
  go_wp2_with fail
  go_ret
  exact ⟨rfl, HF.out⟩
theorem cutsFx_bad {w : World} {g : Nat} (bp : Int) (h : ¬ (0 ≤ bp ∧ bp ≤ 10000)) :
    Calls Tryd.prog 47 #[.pointer (some ⟨g, 0, none⟩), .int .i64 bp] w fun e w' => e = .returned (.int .i64 103) ∧ w = w' := by
  by_cases hp : bp < 0
  · go_enter Tryd.func47, Tryd.ntmps47
    go_wp2
    go_ret
    exact ⟨rfl, rfl⟩
  · have hp1 : decide (bp < 0) = false := decide_eq_false hp
    have hp2 : decide (10000 < bp) = true := decide_eq_true (by omega)
    clear h hp
    go_enter Tryd.func47, Tryd.ntmps47
    go_wp2
    go_ret
    exact ⟨rfl, rfl⟩
end Go.Proofs.YtehacchacgfjlaaDoor
