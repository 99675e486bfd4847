/- The walk of pledgelaw12.CutSteps: it returns true, and writes nothing that was there. -/
import Derived.Test.YtehacchacgfjlaaDoorFirst12
import Derived.Test.YtehacchacgfjlaaDoorSortC
import Derived.Test.YtehacchacgfjlaaDoorSee
namespace Go.Proofs.YtehacchacgfjlaaDoor
open Go.Maps
open Go Go.RowKit
set_option linter.unusedSimpArgs false
set_option linter.unusedVariables false

theorem lad_all {B : Nat} {w : World} {b o : Nat} {m : List ((Int × Int) × Int)} {fx : Int} (h : Lad B w b o m fx) (hl : m.length ≤ 10000) :
    Calls Tryd.prog 42 #[.pointer (some ⟨b, o, none⟩)] w fun e w' => ∃ v, e = .returned v ∧ RdP w.heap.size w' v (sortP (m.map (·.1))) ∧ Below w.heap.size w w' := by
  obtain ⟨⟨r, hc, hm, hr⟩, _⟩ := h
  exact allC_calls hc hm hl
theorem lad_fxget {B : Nat} {w : World} {b o : Nat} {m : List ((Int × Int) × Int)} {fx : Int} (h : Lad B w b o m fx) :
    Calls Tryd.prog 43 #[.pointer (some ⟨b, o, none⟩)] w fun e w' => e = .returned (.int .i64 fx) ∧ w' = w := fx_calls h.cfx

/-- The cuts that are set. -/
def stepsM (q r c k x y : Int) : List ((Int × Int) × Int) := mput (mput (mput [] (q, r) 33) (c, k) x) (c, k) y
theorem stepsM_same (c k x y : Int) : stepsM c k c k x y = [((c, k), y)] := by simp [stepsM, mput, mget]
theorem stepsM_other (q r c k x y : Int) (h : ¬ (q = c ∧ r = k)) : stepsM q r c k x y = [((q, r), 33), ((c, k), y)] := by
  have h' : ¬ ((q, r) = (c, k)) := fun e => h (by simpa using e)
  simp [stepsM, mput, mget, h]
theorem ofN_cash (m : List ((Int × Int) × Int)) (hm : ∀ x ∈ m, 0 ≤ x.2 ∧ x.2 ≤ 10000) : ofN m 0 1 0 1 1 0 9 = (mget m (1, 0)).getD 0 := by
  unfold ofN
  rw [if_pos (by decide), if_pos (by decide), show bucketA 1 0 (leftN 0 9) = 0 by decide]
  cases h : mget m (1, 0) with
  | none => simp only [Option.getD_none]; decide
  | some v =>
    have := hm _ (mget_mem h)
    simp at this ⊢
    omega

/-- The two steps that the walk has made. -/
def Loc (W : World) (lb : Nat) (c k q r : Int) : Prop :=
  W.cell? ⟨lb + 1, 0, none⟩ = some (.int .i64 c) ∧ W.cell? ⟨lb + 1, 1, none⟩ = some (.int .i64 k) ∧ W.cell? ⟨lb + 1 + 1, 0, none⟩ = some (.int .i64 q) ∧ W.cell? ⟨lb + 1 + 1, 1, none⟩ = some (.int .i64 r) ∧ lb + 3 ≤ W.heap.size
theorem Loc.keep {W W' : World} {lb : Nat} {c k q r : Int} (h : Loc W lb c k q r) (hk : Keep (fun x => x = lb ∨ lb + 3 ≤ x) W W') : Loc W' lb c k q r := by
  obtain ⟨h0, h1, h2, h3, hs⟩ := h
  exact ⟨(hk.cell (x := ⟨lb + 1, 0, none⟩) (by simp only; omega) (by simp only; omega)).trans h0, (hk.cell (x := ⟨lb + 1, 1, none⟩) (by simp only; omega) (by simp only; omega)).trans h1,
    (hk.cell (x := ⟨lb + 1 + 1, 0, none⟩) (by simp only; omega) (by simp only; omega)).trans h2, (hk.cell (x := ⟨lb + 1 + 1, 1, none⟩) (by simp only; omega) (by simp only; omega)).trans h3, Nat.le_trans hs hk.size⟩
theorem loc_new (w1 : World) (cl k q r : Int) : Loc (((w1.alloc (Obj.cells #[Value.map none, .int .i64 0] 64)).alloc (Obj.cells #[.int .i64 cl, .int .i64 k] 66)).alloc (Obj.cells #[.int .i64 q, .int .i64 r] 66)) w1.heap.size cl k q r :=
  ⟨by go_simp, by go_simp, by go_simp, by go_simp, by simp⟩
theorem Loc.below {W W' : World} {lb : Nat} {c k q r : Int} (h : Loc W lb c k q r) (hb : Below W.heap.size W W') : Loc W' lb c k q r := h.keep (Keep.of_below hb)

set_option maxHeartbeats 4000000 in
set_option maxRecDepth 100000 in
theorem walk_CutSteps {p : Nat → Addr} {w : World} (hE : Errs [2] w.heap.size p w) (class_ bucket other a b : Int) (h1 : -9223372036854775808 ≤ class_) (h2 : class_ ≤ 9223372036854775807) (h3 : -9223372036854775808 ≤ bucket) (h4 : bucket ≤ 9223372036854775807) (h5 : -9223372036854775808 ≤ other) (h6 : other ≤ 9223372036854775807) (h7 : -9223372036854775808 ≤ a) (h8 : a ≤ 9223372036854775807) (h9 : -9223372036854775808 ≤ b) (h10 : b ≤ 9223372036854775807) :
    Calls Tryd.prog 12 #[.int .i64 class_, .int .i64 bucket, .int .i64 other, .int .i64 a, .int .i64 b] w fun e w' => e = .returned (.bool true) ∧ Below w.heap.size w w' := by
  have HE := Lib.hid hE; clear hE
  go_enter Tryd.func12, Tryd.ntmps12
  go_wp2_with fail
  refine (first12_calls HE.out (by decide)).mono ?_
  rintro e w1 ⟨rfl, HB1⟩
  go_wp2_with fail
  refine (number_calls class_ 6 (by decide) (by decide) _).mono ?_
  rintro e _ ⟨rfl, rfl⟩
  have hc0 := Int.emod_nonneg class_ (show (6 : Int) ≠ 0 by decide)
  have hc1 := Int.emod_lt_of_pos class_ (show (0 : Int) < 6 by decide)
  generalize class_ % 6 = c at *
  go_wp2_with fail
  refine (number_calls bucket 6 (by decide) (by decide) _).mono ?_
  rintro e _ ⟨rfl, rfl⟩
  have hk0 := Int.emod_nonneg bucket (show (6 : Int) ≠ 0 by decide)
  have hk1 := Int.emod_lt_of_pos bucket (show (0 : Int) < 6 by decide)
  generalize bucket % 6 = k at *
  go_wp2_with fail
  refine (number_calls other 36 (by decide) (by decide) _).mono ?_
  rintro e _ ⟨rfl, rfl⟩
  have ho0 := Int.emod_nonneg other (show (36 : Int) ≠ 0 by decide)
  have ho1 := Int.emod_lt_of_pos other (show (0 : Int) < 36 by decide)
  generalize other % 36 = o at *
  go_wp2_with fail
  refine (number_calls a 10001 (by decide) (by decide) _).mono ?_
  rintro e _ ⟨rfl, rfl⟩
  have hx0 := Int.emod_nonneg a (show (10001 : Int) ≠ 0 by decide)
  have hx1 := Int.emod_lt_of_pos a (show (0 : Int) < 10001 by decide)
  generalize a % 10001 = x at *
  go_wp2_with fail
  refine (number_calls b 10001 (by decide) (by decide) _).mono ?_
  rintro e _ ⟨rfl, rfl⟩
  have hy0 := Int.emod_nonneg b (show (10001 : Int) ≠ 0 by decide)
  have hy1 := Int.emod_lt_of_pos b (show (0 : Int) < 10001 by decide)
  generalize b % 10001 = y at *
  clear h1 h2 h3 h4 h5 h6 h7 h8 h9 h10
  go_wp2_with fail
  have hq0 : 0 ≤ o / 6 := by omega
  have hq1 : o / 6 < 6 := by omega
  have hr0 := Int.emod_nonneg o (show (6 : Int) ≠ 0 by decide)
  have hr1 := Int.emod_lt_of_pos o (show (0 : Int) < 6 by decide)
  generalize hq : o / 6 + 1 = q at *
  generalize o % 6 = r at *
  generalize hcc : c + 1 = cl at *
  obtain ⟨W3, hW3⟩ : ∃ W3, (((w1.alloc (Obj.cells #[Value.map none, .int .i64 0] 64)).alloc (Obj.cells #[.int .i64 cl, .int .i64 k] 66)).alloc (Obj.cells #[.int .i64 q, .int .i64 r] 66)) = W3 := ⟨_, rfl⟩
  have hL0 : Lad (w1.heap.size + 3) W3 w1.heap.size 0 [] 0 := by rw [← hW3]; exact (lad_new (w1.heap.size + 3) w1).below (by (repeat (first | exact Below.refl _ _ | assumption | refine Below.drew ?_ | refine below_many ?_ _ | refine Below.alloc ?_ (by first | (simp; done) | (simp; omega) | omega) _ | refine Below.setCell ?_ (by first | (simp; done) | (simp; omega) | omega) _)))
  have hLoc : Loc W3 w1.heap.size cl k q r := by rw [← hW3]; exact loc_new w1 cl k q r
  have HB3 : Below w.heap.size w W3 := by rw [← hW3]; have := HB1.size; (repeat (first | exact Below.refl _ _ | assumption | refine Below.drew ?_ | refine below_many ?_ _ | refine Below.alloc ?_ (by first | (simp; done) | (simp; omega) | omega) _ | refine Below.setCell ?_ (by first | (simp; done) | (simp; omega) | omega) _))
  have hs1 := HB1.size
  rw [hW3]
  clear hW3 HB1
  have q0 : 1 ≤ q := by omega
  have q1 : q ≤ 6 := by omega
  have c0' : 1 ≤ cl := by omega
  have c1' : cl ≤ 6 := by omega
  clear hq hcc hq0 hq1 hc0 hc1
  generalize w1.heap.size = lb at *
  refine (lad_set hL0 hLoc.2.2.2.2 q r 33 (decide_eq_true (by omega))).mono ?_
  rintro e w4 ⟨rfl, hL, hk⟩
  have hLoc4 := hLoc.keep hk
  have hB4 : Below w.heap.size w w4 := HB3.trans (hk.below HB3.size (fun j hj e => by omega))
  clear hL0 hLoc HB3 hk
  obtain ⟨d0, d1, d2, d3, hsz⟩ := id hLoc4
  have HL := Lib.hid (And.intro hL (And.intro hLoc4 hB4))
  clear hL hLoc4 hB4
  go_wp2_with fail
  refine (lad_set HL.out.1 hsz cl k x (decide_eq_true (by omega))).mono ?_
  rintro e w5 ⟨rfl, hL, hk⟩
  have hLoc4 := HL.out.2.1.keep hk
  have hB4 : Below w.heap.size w w5 := HL.out.2.2.trans (hk.below HL.out.2.2.size (fun j hj e => by omega))
  clear HL hk d0 d1 d2 d3 hsz
  obtain ⟨d0, d1, d2, d3, hsz⟩ := id hLoc4
  have HL := Lib.hid (And.intro hL (And.intro hLoc4 hB4))
  clear hL hLoc4 hB4
  go_wp2_with fail
  refine (lad_set HL.out.1 hsz cl k y (decide_eq_true (by omega))).mono ?_
  rintro e w6 ⟨rfl, hL, hk⟩
  have hLoc4 := HL.out.2.1.keep hk
  have hB4 : Below w.heap.size w w6 := HL.out.2.2.trans (hk.below HL.out.2.2.size (fun j hj e => by omega))
  clear HL hk d0 d1 d2 d3 hsz
  have hwk : (Lit.int .i64 k).wf = true := i64wf (by omega) (by omega)
  have hwc : (Lit.int .i64 cl).wf = true := i64wf (by omega) (by omega)
  have hwr : (Lit.int .i64 r).wf = true := i64wf (by omega) (by omega)
  have hwq : (Lit.int .i64 q).wf = true := i64wf (by omega) (by omega)
  have HWF := Lib.hid (And.intro (And.intro hwc hwk) (And.intro hwq hwr))
  clear hwk hwc hwr hwq
  have hmm : mput (mput (mput [] (q, r) 33) (cl, k) x) (cl, k) y = stepsM q r cl k x y := rfl
  rw [hmm] at hL
  clear hmm
  have hg1 : (mget (stepsM q r cl k x y) (cl, k)).getD 0 = y := by unfold stepsM; rw [mget_mput_same]; rfl
  have hbd := hL.bd
  have hof := ofN_cash _ hbd
  obtain ⟨n, want, e1, e2, hw, hn⟩ : ∃ (n want : Int) (e1 : (q == cl) = decide (q = cl)) (e2 : (r == k) = decide (r = k)), (mget (stepsM q r cl k x y) (q, r)).getD 0 = (if q = cl ∧ r = k then y else 33) ∧ ((stepsM q r cl k x y).length : Int) = (if q = cl ∧ r = k then 1 else 2) := by
    refine ⟨0, 0, rfl, rfl, ?_, ?_⟩
    · by_cases h : q = cl ∧ r = k
      · obtain ⟨rfl, rfl⟩ := h
        rw [if_pos ⟨rfl, rfl⟩]; exact hg1
      · rw [if_neg h, stepsM_other _ _ _ _ _ _ h]
        simp [mget]
    · by_cases h : q = cl ∧ r = k
      · obtain ⟨rfl, rfl⟩ := h
        rw [if_pos ⟨rfl, rfl⟩, stepsM_same]; rfl
      · rw [if_neg h, stepsM_other _ _ _ _ _ _ h]; rfl
  clear e1 e2 n want hbd
  have hlen : (stepsM q r cl k x y).length ≤ 10000 := by split at hn <;> omega
  generalize stepsM q r cl k x y = m at *
  obtain ⟨d0, d1, d2, d3, hsz⟩ := id hLoc4
  have HL := Lib.hid (And.intro hL (And.intro hLoc4 hB4))
  have HG := Lib.hid (And.intro hg1 (And.intro hof hlen))
  clear hL hLoc4 hB4 hg1 hof hlen
  by_cases hqc : q = cl <;> by_cases hrk : r = k
  all_goals
    first
      | (have hc : q = cl ∧ r = k := by omega
         rw [if_pos hc] at hw hn
         clear hc)
      | (have hc : ¬ (q = cl ∧ r = k) := by omega
         rw [if_neg hc] at hw hn
         clear hc)
    have HW := Lib.hid (And.intro hw hn)
    clear hw hn
    first
      | (have e1 : (q == cl) = true := by rw [beq_iff_eq]; omega)
      | (have e1 : (q == cl) = false := by rw [beq_eq_false_iff_ne]; omega)
    first
      | (have e2 : (r == k) = true := by rw [beq_iff_eq]; omega)
      | (have e2 : (r == k) = false := by rw [beq_eq_false_iff_ne]; omega)
    clear hqc hrk
    go_wp2_with fail
    refine (lad_get HL.out.1 cl k HWF.out.1.1 HWF.out.1.2).mono ?_
    rintro e w7 ⟨rfl, hb⟩
    rw [HG.out.1]
    have hLoc4 := HL.out.2.1.below hb
    have hL := HL.out.1.below hb
    have hB4 := bbase HL.out.2.2 hb
    clear HL hb d0 d1 d2 d3 hsz
    obtain ⟨d0, d1, d2, d3, hsz⟩ := id hLoc4
    have HL := Lib.hid (And.intro hL (And.intro hLoc4 hB4))
    clear hL hLoc4 hB4
    go_wp2_with fail
    refine (lad_get HL.out.1 q r HWF.out.2.1 HWF.out.2.2).mono ?_
    rintro e w8 ⟨rfl, hb⟩
    rw [HW.out.1]
    have hLoc4 := HL.out.2.1.below hb
    have hL := HL.out.1.below hb
    have hB4 := bbase HL.out.2.2 hb
    clear HL hb d0 d1 d2 d3 hsz
    have HL := Lib.hid (And.intro hL (And.intro hLoc4 hB4))
    clear hL hLoc4 hB4
    go_wp2_with fail
    refine (lad_all HL.out.1 HG.out.2.2).mono ?_
    rintro e w9 ⟨v, rfl, ⟨ad, cap, rfl, hcap, hmx, _⟩, hb⟩
    have hlen : ((sortP (m.map (·.1))).length : Int) = (m.length : Int) := by rw [sortP_length, List.length_map]
    rw [HW.out.2] at hlen
    have hL := HL.out.1.below hb
    have hB4 := bbase HL.out.2.2 hb
    clear HL hb hcap hmx
    generalize (sortP (m.map (·.1))).length = len at *
    have HL := Lib.hid (And.intro hL hB4)
    clear hL hB4
    go_wp2_with fail
    refine (lad_fxget HL.out.1).mono ?_
    rintro e _ ⟨rfl, rfl⟩
    go_wp2_with fail
    refine (lad_of (HE.out.below HL.out.2) (by decide) HL.out.1 1 0 1 1 0 9).mono ?_
    rintro e w11 ⟨rfl, hb⟩
    rw [HG.out.2.1]
    have hL := HL.out.1.below hb
    have hB4 := bbase HL.out.2 hb
    clear HL hb
    have HL := Lib.hid (And.intro hL hB4)
    clear hL hB4
    go_wp2_with fail
    refine (lad_get HL.out.1 1 0 (by decide) (by decide)).mono ?_
    rintro e w12 ⟨rfl, hb⟩
    have hB4 := bbase HL.out.2 hb
    clear HL hb
    go_wp2_with fail
    go_ret
    exact ⟨rfl, hB4⟩
end Go.Proofs.YtehacchacgfjlaaDoor
