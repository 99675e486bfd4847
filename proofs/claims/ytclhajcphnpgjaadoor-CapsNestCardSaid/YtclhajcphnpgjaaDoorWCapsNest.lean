/- The walk of pledgelaw16.CapsNest: it returns true, and writes nothing that was there. -/
import Derived.Test.YtclhajcphnpgjaaDoorCapsFirst
import Derived.Deep.Cut
namespace Go.Proofs.YtclhajcphnpgjaaDoor
open Go.Maps
open Go Go.RowKit
set_option linter.unusedSimpArgs false
set_option linter.unusedVariables false

theorem nest_law (x y z i m c : Int) (hx : 0 ≤ x ∧ x < 1000) (hy : 0 ≤ y ∧ y < 1000) (hz : 0 ≤ z ∧ z < 1000) (hi : 0 < i) (hm : 0 < m) (hc : 0 < c) :
    capR [((3, 3), i), ((2, 2), m), ((1, 5), c)] [((5, 2, 3), x), ((5, 2, 3), y), ((5, 2, 4), z), ((5, 1, 3), x)] = .ok (min (min (min (x + y) i + z) m + min x i) c) := by
  have h1 : ∀ p ∈ [(((5, 2, 3) : G), x), ((5, 2, 3), y), ((5, 2, 4), z), ((5, 1, 3), x)], 0 ≤ p.2 := by simp; omega
  unfold capR
  rw [capSum_small _ h1 (by simp [sumAll, MAXM]; omega)]
  simp only [Except.ok.injEq]
  simp [lev3, lev2, lev1, lvl, sumsOf, addM, mput, mget, capI, capM, capC, toI, toM, toC, lim, sumAll, cut, hi, hm, hc]
theorem nest_law2 (z i m c : Int) (hz : 0 ≤ z ∧ z < 1000) (hi : 0 < i) (hm : 0 < m) (hc : 0 < c) :
    capR [((3, 3), i), ((2, 2), m), ((1, 5), c)] [((4, 1, 4), z), ((5, 1, 4), z)] = .ok (z + min z c) := by
  have h1 : ∀ p ∈ [(((4, 1, 4) : G), z), ((5, 1, 4), z)], 0 ≤ p.2 := by simp; omega
  unfold capR
  rw [capSum_small _ h1 (by simp [sumAll, MAXM]; omega)]
  simp only [Except.ok.injEq]
  simp [lev3, lev2, lev1, lvl, sumsOf, addM, mput, mget, capI, capM, capC, toI, toM, toC, lim, sumAll, cut, hi, hm, hc]
theorem nest_set (i m c : Int) (hi : 0 < i ∧ i ≤ 3000) (hm : 0 < m ∧ m ≤ 3000) (hc : 0 < c ∧ c ≤ 3000) :
    lset (lset (lset [] 3 3 i) 2 2 m) 1 5 c = [((3, 3), i), ((2, 2), m), ((1, 5), c)] := by
  have o1 : limOK 3 3 i = true := decide_eq_true (by simp [mostOf]; omega)
  have o2 : limOK 2 2 m = true := decide_eq_true (by simp [mostOf]; omega)
  have o3 : limOK 1 5 c = true := decide_eq_true (by simp [mostOf]; omega)
  unfold lset
  rw [o1, o2, o3]
  simp [mput, mget, show ¬ i = 0 by omega, show ¬ m = 0 by omega, show ¬ c = 0 by omega]

set_option maxHeartbeats 4000000 in
set_option maxRecDepth 100000 in
theorem walk_CapsNest {p : Nat → Addr} {w : World} (hE : Errs [2, 3] w.heap.size p w) (n0 n1 n2 n3 n4 n5 : Int) (l0 : -9223372036854775808 ≤ n0) (u0 : n0 ≤ 9223372036854775807) (l1 : -9223372036854775808 ≤ n1) (u1 : n1 ≤ 9223372036854775807) (l2 : -9223372036854775808 ≤ n2) (u2 : n2 ≤ 9223372036854775807) (l3 : -9223372036854775808 ≤ n3) (u3 : n3 ≤ 9223372036854775807) (l4 : -9223372036854775808 ≤ n4) (u4 : n4 ≤ 9223372036854775807) (l5 : -9223372036854775808 ≤ n5) (u5 : n5 ≤ 9223372036854775807) :
    Calls Tryd.prog 6 #[.int .i64 n0, .int .i64 n1, .int .i64 n2, .int .i64 n3, .int .i64 n4, .int .i64 n5] w fun e w' => e = .returned (.bool true) ∧ Below w.heap.size w w' := by
  have HE := Lib.hid hE; clear hE l0 u0 l1 u1 l2 u2 l3 u3 l4 u4 l5 u5
  have b0 : 0 ≤ n0 % 1000 ∧ n0 % 1000 < 1000 := by omega
  have b1 : 0 ≤ n1 % 1000 ∧ n1 % 1000 < 1000 := by omega
  have b2 : 0 ≤ n2 % 1000 ∧ n2 % 1000 < 1000 := by omega
  have b3 : 0 ≤ n3 % 900 ∧ n3 % 900 < 900 := by omega
  have b4 : 0 ≤ n4 % 1500 ∧ n4 % 1500 < 1500 := by omega
  have b5 : 0 ≤ n5 % 2500 ∧ n5 % 2500 < 2500 := by omega
  go_enter Tryd.func6, Tryd.ntmps6
  go_wp2_with fail
  refine (first16_calls HE.out (by decide) (by decide)).mono ?_
  rintro e w1 ⟨rfl, hb1⟩
  have hs1 := hb1.size
  go_wp2_with (first | (go_at_call 16; refine (number_calls _ _ (by decide) (by decide) _).mono ?_; rintro e w2 ⟨rfl, rfl⟩) | (go_at_call 21; fail))
  generalize n0 % 1000 = x at *
  generalize n1 % 1000 = y at *
  generalize n2 % 1000 = z at *
  generalize hi : n3 % 900 + 1 = ci at *
  generalize hm : n4 % 1500 + 1 = cm at *
  generalize hc : n5 % 2500 + 1 = cc at *
  have bi : 0 < ci ∧ ci ≤ 3000 := by omega
  have bm : 0 < cm ∧ cm ≤ 3000 := by omega
  have bc : 0 < cc ∧ cc ≤ 3000 := by omega
  have o1 : limE p 3 3 ci = .nilIface := by unfold limE; rw [show limOK 3 3 ci = true from decide_eq_true (by simp [mostOf]; omega)]; rfl
  have o2 : limE p 2 2 cm = .nilIface := by unfold limE; rw [show limOK 2 2 cm = true from decide_eq_true (by simp [mostOf]; omega)]; rfl
  have o3 : limE p 1 5 cc = .nilIface := by unfold limE; rw [show limOK 1 5 cc = true from decide_eq_true (by simp [mostOf]; omega)]; rfl
  clear hi hm hc b3 b4 b5
  have HL1 := Lib.hid (nest_law x y z ci cm cc b0 b1 b2 bi.1 bm.1 bc.1)
  have HL2 := Lib.hid (nest_law2 z ci cm cc b2 bi.1 bm.1 bc.1)
  have HLS := Lib.hid (nest_set ci cm cc bi bm bc)
  refine (caps_set (HE.out.below (show Below w.heap.size w _ by (repeat (first | exact Below.refl _ _ | assumption | refine Below.drew ?_ | refine below_many ?_ _ | refine Below.alloc ?_ (by first | (simp; done) | (simp; omega) | omega) _ | refine Below.setCell ?_ (by first | (simp; done) | (simp; omega) | omega) _)))) (by decide) (caps_new w1.heap.size w1) (by simp) 3 3 ci).mono ?_
  rintro e w2 ⟨rfl, hT2, hk2⟩
  rw [o1]
  have hB2 : Below w.heap.size w w2 := Below.trans (show Below w.heap.size w _ by (repeat (first | exact Below.refl _ _ | assumption | refine Below.drew ?_ | refine below_many ?_ _ | refine Below.alloc ?_ (by first | (simp; done) | (simp; omega) | omega) _ | refine Below.setCell ?_ (by first | (simp; done) | (simp; omega) | omega) _))) (hk2.below (by simp; omega) (fun k hk e => by omega))
  have hs2 : w1.heap.size ≤ w2.heap.size := by have := hk2.size; simp at this; omega
  have HT2 := Lib.hid hT2
  clear hT2 hk2 hb1 o1
  go_wp2_with fail
  refine (caps_set (HE.out.below hB2) (by decide) HT2.out hs2 2 2 cm).mono ?_
  rintro e w3 ⟨rfl, hT3, hk3⟩
  rw [o2]
  have hB3 : Below w.heap.size w w3 := hB2.trans (hk3.below hB2.size (fun k hk e => by omega))
  have hs3 : w1.heap.size ≤ w3.heap.size := Nat.le_trans hs2 hk3.size
  have HT3 := Lib.hid hT3
  clear hT3 hk3 hB2 HT2 o2 hs2
  go_wp2_with fail
  refine (caps_set (HE.out.below hB3) (by decide) HT3.out hs3 1 5 cc).mono ?_
  rintro e w4 ⟨rfl, hT4, hk4⟩
  rw [o3]
  have hB4 : Below w.heap.size w w4 := hB3.trans (hk4.below hB3.size (fun k hk e => by omega))
  have hs4 : w.heap.size ≤ w4.heap.size := hB4.size
  rw [HLS.out] at hT4
  have HT4 := Lib.hid hT4.at
  clear hT4 hk4 hB3 HT3 o3 hs3
  go_wp2_with fail
  refine (sum_calls (HE.out.below (show Below w.heap.size w _ by (repeat (first | exact Below.refl _ _ | assumption | refine Below.drew ?_ | refine below_many ?_ _ | refine Below.alloc ?_ (by first | (simp; done) | (simp; omega) | omega) _ | refine Below.setCell ?_ (by first | (simp; done) | (simp; omega) | omega) _)))) (by decide) (HT4.out.below (by (repeat (first | exact Below.refl _ _ | assumption | refine Below.drew ?_ | refine below_many ?_ _ | refine Below.alloc ?_ (by first | (simp; done) | (simp; omega) | omega) _ | refine Below.setCell ?_ (by first | (simp; done) | (simp; omega) | omega) _)))) (LinesAt.row w4 [((5, 2, 3), x), ((5, 2, 3), y), ((5, 2, 4), z), ((5, 1, 3), x)] _ _ 4 (by rfl) (by rfl) (by decide)) (by simp [fitsL]; omega)).mono ?_
  rintro e w5 ⟨rfl, hb5⟩
  rw [HL1.out]
  simp only [resV]
  have hb5' : Below w4.heap.size w4 w5 := Below.trans (show Below w4.heap.size w4 _ by (repeat (first | exact Below.refl _ _ | assumption | refine Below.drew ?_ | refine below_many ?_ _ | refine Below.alloc ?_ (by first | (simp; done) | (simp; omega) | omega) _ | refine Below.setCell ?_ (by first | (simp; done) | (simp; omega) | omega) _))) (hb5.mono (by simp))
  have hB5 := hB4.trans (hb5'.mono hs4)
  have hs5 := hB5.size
  have HT5 := Lib.hid (HT4.out.below hb5')
  clear hb5 hb5' hB4 HT4 hs4 HL1
  go_wp2_with fail
  all_goals
    refine (sum_calls (HE.out.below (show Below w.heap.size w _ by (repeat (first | exact Below.refl _ _ | assumption | refine Below.drew ?_ | refine below_many ?_ _ | refine Below.alloc ?_ (by first | (simp; done) | (simp; omega) | omega) _ | refine Below.setCell ?_ (by first | (simp; done) | (simp; omega) | omega) _)))) (by decide) (HT5.out.below (by (repeat (first | exact Below.refl _ _ | assumption | refine Below.drew ?_ | refine below_many ?_ _ | refine Below.alloc ?_ (by first | (simp; done) | (simp; omega) | omega) _ | refine Below.setCell ?_ (by first | (simp; done) | (simp; omega) | omega) _)))) (LinesAt.row w5 [((4, 1, 4), z), ((5, 1, 4), z)] _ _ 2 (by rfl) (by rfl) (by decide)) (by simp [fitsL]; omega)).mono ?_
    rintro e w6 ⟨rfl, hb6⟩
    rw [HL2.out]
    simp only [resV]
    have HB6 : Hid (Below w.heap.size w w6) := Below.trans (show Below w.heap.size w _ by (repeat (first | exact Below.refl _ _ | assumption | refine Below.drew ?_ | refine below_many ?_ _ | refine Below.alloc ?_ (by first | (simp; done) | (simp; omega) | omega) _ | refine Below.setCell ?_ (by first | (simp; done) | (simp; omega) | omega) _))) (hb6.mono (by simp; omega))
    clear hb6 HL2 HLS HT5 hB5
    go_wp2_with fail
    all_goals
      go_ret
      first
        | exact ⟨rfl, HB6.out⟩
        | (exfalso; omega)
        | exact ⟨congrArg (fun b => Ending.returned (Value.bool b)) (beq_iff_eq.2 (by omega)), HB6.out⟩
        | exact ⟨congrArg (fun b => Ending.returned (Value.bool b)) (by simp; omega), HB6.out⟩

end Go.Proofs.YtclhajcphnpgjaaDoor
