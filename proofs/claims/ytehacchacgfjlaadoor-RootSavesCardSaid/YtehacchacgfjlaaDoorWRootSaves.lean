/- The walk of pledgelaw6.RootSaves: it returns true, and writes nothing that was there. -/
import Derived.Test.YtehacchacgfjlaaDoorRoot8
import Derived.Deep.DeepCutAuto
import Derived.Deep.CutBlock
import Derived.Deep.CutRange
namespace Go.Proofs.YtehacchacgfjlaaDoor
open Go.Maps
open Go Go.RowKit
set_option linter.unusedSimpArgs false
set_option linter.unusedVariables false

/-- The sectors behind the saves of the law. -/
abbrev savN (l : List Int) (k : Nat) : Int → List Int := savF (listN l) k
theorem listN_all (l : List Int) : ∀ k : Nat, 1 ≤ k → k ≤ 30 → rootOk (k : Int) (listN l k) := fun k h1 h2 => listN_ok l k h1 h2
theorem savN_bytes (l : List Int) (k : Nat) (i : Int) : isBytes (savN l k i) := savF_bytes (fun k => by have := listN_len l k; omega) k i
set_option maxHeartbeats 8000000 in
set_option maxRecDepth 100000 in
theorem walk_RootSaves {p : Nat → Addr} {w : World} (hE : Errs (List.range 21) w.heap.size p w) (a b : Int) (la : Option Addr) (llen lcap : Nat) (lz : List Int) (ma : Option Addr) (mlen mcap : Nat) (mz : List Int) (h1 : -9223372036854775808 ≤ a) (h2 : a ≤ 9223372036854775807) (h3 : -9223372036854775808 ≤ b) (h4 : b ≤ 9223372036854775807) (hl : IsRow .i64 w la llen lcap lz) (hm : IsRow .i64 w ma mlen mcap mz) :
    Calls Tryd.prog 11 #[.int .i64 a, .int .i64 b, .slice la llen lcap, .slice ma mlen mcap] w fun r w' => r = .returned (.bool true) ∧ Below w.heap.size w w' := by
  obtain ⟨qs, l1, l2, hq⟩ := hl.picks9
  obtain ⟨l, m1, m2⟩ := hm.list9
  subst l2 m2
  have HE := Lib.hid hE
  have HL := Lib.hid l1
  have HM := Lib.hid m1
  have HQB := Lib.hid hq
  clear l1 m1 hl hm hE hq
  go_enter Tryd.func11, Tryd.ntmps11
  obtain ⟨w0, hw0⟩ : ∃ w0, w0 = w.alloc (.cells #[.slice ma l.length mcap] 42) := ⟨_, rfl⟩
  have hb0 : Below w.heap.size w w0 := by rw [hw0]; (repeat (first | exact Below.refl _ _ | assumption | refine Below.drew ?_ | refine below_many ?_ _ | refine Below.alloc ?_ (by first | (simp; done) | (simp; omega) | omega) _ | refine Below.setCell ?_ (by first | (simp; done) | (simp; omega) | omega) _))
  have x0 : w0.cell? ⟨w.heap.size, 0, none⟩ = some (.slice ma l.length mcap) := by rw [hw0]; exact cell_new w _ _ 0
  have hx0 : w.heap.size < w0.heap.size := by rw [hw0]; simp
  have HW0 := Lib.hid hw0
  clear hw0
  go_wp2_with fail
  rw [← HW0.out]
  refine (first6_calls (HE.out.below hb0) (by decide) (by decide)).mono ?_
  rintro r w1 ⟨rfl, hb⟩
  have x1 := (hb.cell (p := ⟨w.heap.size, 0, none⟩) hx0).trans x0
  have hx1 : w.heap.size < w1.heap.size := Nat.lt_of_lt_of_le hx0 hb.size
  have hb1 : Below w.heap.size w w1 := hb0.trans (hb.mono (Nat.le_of_lt hx0))
  -- what stands in whatever world from here on
  have HX : Hid (∀ wq, Below w1.heap.size w1 wq → wq.cell? ⟨w.heap.size, 0, none⟩ = some (.slice ma l.length mcap) ∧ RdK .i64 wq (.slice ma l.length mcap) l ∧ RdK .i64 wq (.slice la qs.length lcap) qs ∧ Below w.heap.size w wq) := fun wq hq => by
    have hbq : Below w.heap.size w wq := hb1.trans (hq.mono (Nat.le_of_lt hx1))
    exact ⟨(hq.cell (p := ⟨w.heap.size, 0, none⟩) hx1).trans x1, HM.out.below hbq, HL.out.below hbq, hbq⟩
  have HB1 := Lib.hid hb1
  clear hb0 hb hb1 x0 hx0 HW0
  have hn0 := Int.emod_nonneg a (show (20 : Int) ≠ 0 by decide)
  have hn1 := Int.emod_lt_of_pos a (show (0 : Int) < 20 by decide)
  obtain ⟨n, hn⟩ : ∃ n : Nat, (n : Int) = a % 20 := ⟨(a % 20).toNat, by omega⟩
  rw [← hn] at hn0 hn1
  have hn20 : n < 20 := by omega
  obtain ⟨_, _, _, hml, hmx⟩ := HM.out.len
  obtain ⟨_, _, _, hml2, hmx2⟩ := HL.out.len
  unfold maxLen at hmx hmx2
  go_wp2_with fail
  refine (number_calls _ _ (by decide) (by decide) _).mono ?_
  rintro r wz ⟨rfl, rfl⟩
  rw [← hn]
  clear hn
  by_cases hp6 : (6 : Int) < (qs.length : Int)
  · go_wp2_with fail
    go_ret
    exact ⟨rfl, HB1.out⟩
  by_cases hp20 : (20 : Int) < (l.length : Int)
  · have hp6' : decide ((6 : Int) < (qs.length : Int)) = false := decide_eq_false hp6
    go_wp2_with fail
    go_ret
    exact ⟨rfl, HB1.out⟩
  have hp6' : decide ((6 : Int) < (qs.length : Int)) = false := decide_eq_false hp6
  have hp20' : decide ((20 : Int) < (l.length : Int)) = false := decide_eq_false hp20
  clear hp6 hp20
  go_wp2_with fail
  refine (da_new 6 (by decide) (by decide) w1).mono ?_
  rintro r w2 ⟨rfl, hD, hb⟩
  have HQ : Hid (Below w1.heap.size w1 w2) := hb
  have HD := Lib.hid hD
  have hd2 := hD.lt
  clear hD hb hp6' hp20'
  obtain ⟨x2, _, _, _⟩ := HX.out w2 HQ.out
  go_wp2_with fail
  have HS0 : Hid (∃ (pb : Nat) (calls : Int), DA w1.heap.size w2 (w1.heap.size + 2) w1.heap.size pb 6 (savN l 0) [] calls 0 false ∧ 0 ≤ calls ∧ calls ≤ 2 * ((0 : Nat) : Int) ∧ Below w1.heap.size w1 w2) := ⟨_, _, HD.out, by decide, by decide, HQ.out⟩
  clear HD HQ x2 hd2
  go_loopw [13] (fun i wq => ∃ k : Nat, k ≤ n ∧ i = .int .i64 ((k : Int) + 1) ∧ Hid (∃ (pb : Nat) (calls : Int), DA w1.heap.size wq (w1.heap.size + 2) w1.heap.size pb 6 (savN l k) [] calls 0 false ∧ 0 ≤ calls ∧ calls ≤ 2 * (k : Int) ∧ Below w1.heap.size w1 wq)) (fun i _ => n + 1 - (intOf i).toNat)
  case atStart => exact ⟨0, by omega, rfl, HS0⟩
  case round =>
    clear HS0
    obtain ⟨k, hk, rfl, hst⟩ := hrel
    obtain ⟨pb, calls, hD, hc0, hc1, hQ⟩ := hst.out
    have HD := Lib.hid hD
    have HQ := Lib.hid hQ
    have hdl := hD.lt
    have hsz := hQ.size
    clear hst hD hQ
    by_cases hlt : k < n
    · obtain ⟨x2, hl2, _, _⟩ := HX.out _ HQ.out
      have HL2 := Lib.hid hl2
      have HK1 : Hid ((k : Int) + 1 = ((k + 1 : Nat) : Int)) := by unfold Hid; omega
      have HOK : Hid (rootOk ((k + 1 : Nat) : Int) (listN l (k + 1))) := listN_ok l (k + 1) (by omega) (by omega)
      clear hl2
      go_wp2_with fail
      rw [HK1.out]
      refine (list_calls x2 HL2.out (k + 1) (by omega) (by omega)).mono ?_
      rintro r wb ⟨u, rfl, hR, hb⟩
      obtain ⟨au, cu, rfl, _, _⟩ := hR.len
      have HR := Lib.hid hR
      replace HQ := Lib.hid (HQ.out.trans (hb.mono hsz))
      replace HD := Lib.hid (HD.out.below hb)
      clear hR hb HL2 x2 hdl hsz
      go_wp2_with fail
      refine (made_calls ((k + 1 : Nat) : Int) HR.out (by have := listN_len l (k + 1); omega)).mono ?_
      rintro r wc ⟨u3, rfl, hO, hb⟩
      have HY := Lib.hid hO.rdK
      replace HQ := Lib.hid (HQ.out.trans (hb.mono HQ.out.size))
      replace HD := Lib.hid (HD.out.below hb)
      obtain ⟨a3, c3, rfl⟩ := hO.len
      have hs3 := HQ.out.size
      clear hO hb HR
      go_wp2_with fail
      refine (save_ok HD.out (by decide) (by decide) (by decide) rfl rfl (by omega) (by omega) HY.out HOK.out).mono ?_
      rintro r wd ⟨rfl, pb7, hD, hp7, hk7⟩
      rw [show goneF (goneF 0 false) false = 0 from rfl] at hD
      replace hD : DA w1.heap.size wd (w1.heap.size + 2) w1.heap.size pb7 6 (savN l (k + 1)) [] (calls + 1 + 1) 0 false := hD
      replace HQ := Lib.hid (HQ.out.trans (HD.out.out hk7 (by omega) (fun z hz => hz)))
      replace HD := Lib.hid hD
      clear hD hk7 HY
      go_wp2_with fail
      go_roundw
      case rel => exact ⟨k + 1, by omega, by go_num, ⟨_, _, HD.out, by omega, by omega, HQ.out⟩⟩
      case measure => simp [intOf]; omega
    · obtain rfl : k = n := by omega
      clear hlt
      go_wp2_with fail
      refine (number_calls b 3 (by decide) (by decide) _).mono ?_
      rintro r wz ⟨rfl, rfl⟩
      have hm0 := Int.emod_nonneg b (show (3 : Int) ≠ 0 by decide)
      have hm1 := Int.emod_lt_of_pos b (show (0 : Int) < 3 by decide)
      obtain ⟨m, hm⟩ : ∃ m : Int, m = b % 3 := ⟨_, rfl⟩
      rw [← hm] at hm0 hm1 ⊢
      clear hm
      go_wp2_with fail
      refine (da_arm HD.out (m + 1)).mono ?_
      rintro r w3 ⟨rfl, hD, hk3⟩
      rw [if_neg (by omega)] at hD
      replace HQ := Lib.hid (HQ.out.trans (HD.out.out hk3 (by omega) (fun z hz => .inl hz)))
      replace HD := Lib.hid hD
      clear hD hk3 hdl hsz
      obtain ⟨x2, hl2, _, _⟩ := HX.out _ HQ.out
      have HL2 := Lib.hid hl2
      have HK1 : Hid ((k : Int) + 1 = ((k + 1 : Nat) : Int)) := by unfold Hid; omega
      have HOK : Hid (rootOk ((k + 1 : Nat) : Int) (listN l (k + 1))) := listN_ok l (k + 1) (by omega) (by omega)
      have hsz := HQ.out.size
      clear hl2
      go_wp2_with fail
      rw [HK1.out]
      refine (list_calls x2 HL2.out (k + 1) (by omega) (by omega)).mono ?_
      rintro r wb ⟨u, rfl, hR, hb⟩
      obtain ⟨au, cu, rfl, _, _⟩ := hR.len
      have HR := Lib.hid hR
      replace HQ := Lib.hid (HQ.out.trans (hb.mono hsz))
      replace HD := Lib.hid (HD.out.below hb)
      clear hR hb HL2 x2 hsz
      go_wp2_with fail
      refine (made_calls ((k + 1 : Nat) : Int) HR.out (by have := listN_len l (k + 1); omega)).mono ?_
      rintro r wc ⟨u3, rfl, hO, hb⟩
      have HY := Lib.hid hO.rdK
      replace HQ := Lib.hid (HQ.out.trans (hb.mono HQ.out.size))
      replace HD := Lib.hid (HD.out.below hb)
      obtain ⟨a3, c3, rfl⟩ := hO.len
      have hs3 := HQ.out.size
      clear hO hb HR
      go_wp2_with fail
      by_cases hm2 : m = 2
      · subst hm2
        refine (save_ok HD.out (by decide) (by decide) (by decide) rfl rfl (by omega) (by omega) HY.out HOK.out).mono ?_
        rintro r wd ⟨rfl, pb7, hD, hp7, hk7⟩
        rw [show goneF (goneF (2 + 1) false) false = 1 from rfl] at hD
        replace hD : DA w1.heap.size wd (w1.heap.size + 2) w1.heap.size pb7 6 (savN l (k + 1)) [] (calls + 1 + 1) 1 false := hD
        replace HQ := Lib.hid (HQ.out.trans (HD.out.out hk7 (by omega) (fun z hz => hz)))
        replace HD := Lib.hid hD
        clear hD hk7 HY
        obtain ⟨_, _, hq2, _⟩ := HX.out _ HQ.out
        have HQ2 := Lib.hid hq2
        have hs4 := HQ.out.size
        clear hq2
        go_wp2_with fail
        refine (da_crash HD.out (by decide) (by omega) HQ2.out HQB.out).mono ?_
        rintro r we ⟨rfl, pb8, hD, hp8, hk8⟩
        rw [show keysA ([] : PenL) = [] by simp [keysA], crashTo_none] at hD
        replace HQ := Lib.hid (HQ.out.trans (HD.out.out hk8 (by omega) (fun z hz => hz.elim .inl (fun h => .inr (.inl h)))))
        replace HD := Lib.hid hD
        clear hD hk8 HQ2
        have hLs : loadL (rdS (savN l (k + 1)) []) = (((k + 1 : Nat) : Int), listN l (k + 1)) := by
          rw [rdS_nil', load_sav (listN_all l) (k + 1) (by omega)]
          unfold baseR
          rw [if_neg (by omega)]
        have HLs := Lib.hid hLs
        clear hLs
        go_wp2_with fail
        refine (load_own (HE.out.below (HX.out _ HQ.out).2.2.2) (by decide) (by decide) HD.out (by decide) (by decide) (fun i => by rw [rdS_nil']; exact savN_bytes l (k + 1) i)).mono ?_
        rintro r wf ⟨hb, v13, rfl, hV, _⟩
        rw [HLs.out] at hV ⊢
        rw [decide_eq_true (show (0 : Int) < ((k + 1 : Nat) : Int) by omega)]
        simp only at hV ⊢
        replace HQ : Hid (Below w1.heap.size w1 wf) := HQ.out.trans (hb.mono HQ.out.size)
        clear hb HD HLs
        obtain ⟨av, cv, rfl, _, _⟩ := hV.len
        have HV := Lib.hid hV
        clear hV
        have hs5 := HQ.out.size
        obtain ⟨x5, hl5, _, _⟩ := HX.out _ HQ.out
        have HL5 := Lib.hid hl5
        clear hl5
        have hb6 : Below wf.heap.size wf (wf.alloc (.cells #[.int .i64 ((k + 1 : Nat) : Int), .slice av (listN l (k + 1)).length cv] 48)) := by (repeat (first | exact Below.refl _ _ | assumption | refine Below.drew ?_ | refine below_many ?_ _ | refine Below.alloc ?_ (by first | (simp; done) | (simp; omega) | omega) _ | refine Below.setCell ?_ (by first | (simp; done) | (simp; omega) | omega) _))
        obtain ⟨wy, hwy⟩ : ∃ wy, wy = wf.alloc (.cells #[.int .i64 ((k + 1 : Nat) : Int), .slice av (listN l (k + 1)).length cv] 48) := ⟨_, rfl⟩
        rw [← hwy] at hb6
        have y0 : wy.cell? ⟨wf.heap.size, 0, none⟩ = some (.int .i64 ((k + 1 : Nat) : Int)) := by rw [hwy]; exact cell_new wf _ _ 0
        have y1 : wy.cell? ⟨wf.heap.size, 1, none⟩ = some (.slice av (listN l (k + 1)).length cv) := by rw [hwy]; exact cell_new wf _ _ 1
        have hys : wf.heap.size < wy.heap.size := by rw [hwy]; simp
        rw [← HK1.out] at hwy y0
        have HWY := Lib.hid hwy
        have HY5 : Hid (∀ wq, Below wy.heap.size wy wq → (wq.cell? ⟨wf.heap.size, 0, none⟩ = some (.int .i64 ((k : Int) + 1)) ∧ wq.cell? ⟨wf.heap.size, 1, none⟩ = some (.slice av (listN l (k + 1)).length cv)) ∧ RdK .i64 wq (.slice av (listN l (k + 1)).length cv) (listN l (k + 1)) ∧ Below w1.heap.size w1 wq) := fun wq hq => ⟨⟨(hq.cell (p := ⟨wf.heap.size, 0, none⟩) hys).trans y0, (hq.cell (p := ⟨wf.heap.size, 1, none⟩) hys).trans y1⟩, (HV.out.below hb6).below hq, HQ.out.trans ((hb6.trans (hq.mono (Nat.le_of_lt hys))).mono HQ.out.size)⟩
        have HBd : Hid (Below wy.heap.size wy wy.drew) := (Below.refl _ _).drew
        have HKa := (HY5.out _ HBd.out).1
        obtain ⟨z2, hzl, _, _⟩ := HX.out _ (HY5.out _ HBd.out).2.2
        have HZL := Lib.hid hzl
        have hwlt : w.heap.size < wy.drew.heap.size := by have := (HY5.out _ HBd.out).2.2.size; omega
        have HN3 := Lib.hid (listN_len l (k + 1))
        have hwr : IntKind.i64.wrap ((k : Int) + 1) = (k : Int) + 1 := IntWalk.i64_in _ (by omega)
        clear hb6 hwy y0 y1 hzl x5
        go_wp2_with fail
        rw [← HWY.out]
        go_region_held3 (fun wq => wq.cell? ⟨wf.heap.size, 0, none⟩ = some (.int .i64 ((k : Int) + 1)) ∧ wq.cell? ⟨wf.heap.size, 1, none⟩ = some (.slice av (listN l (k + 1)).length cv))
          (first | exact HKd | exact HKc | exact HKb | exact HKa)
          (first
            | (go_at_call 38; go_loud (refine (list_callsE z2 HZL.out (k + 1) (by omega) hwlt ((k : Int) + 1) HK1.out).mono ?_); rintro r wg ⟨u, rfl, hR, hb⟩; have HBe : Hid (Below wy.heap.size wy wg) := HBd.out.trans (hb.mono HBd.out.size); have HKb := (HY5.out _ HBe.out).1; obtain ⟨ag, cg, hvg, _, _⟩ := hR.len; subst hvg; have HR := Lib.hid hR; clear hR hb)
            | (go_at_call 32; refine (made_calls ((k : Int) + 1) HR.out (by have := HN3.out; omega)).mono ?_; rintro r wh ⟨u13, rfl, hO, hb⟩; have HBz : Hid (Below wy.heap.size wy wh) := HBe.out.trans (hb.mono HBe.out.size); have HKc := (HY5.out _ HBz.out).1; have HU := Lib.hid hO.rdK; obtain ⟨a13, c13, rfl⟩ := hO.len; have HVz := Lib.hid (HY5.out _ HBz.out).2.1; clear hO hb)
            | (go_at_call 35; refine (same_calls ((k : Int) + 1) ((k : Int) + 1) HVz.out HU.out).mono ?_; rintro r wi ⟨rfl, hb⟩; have HBw : Hid (Below wy.heap.size wy wi) := HBz.out.trans (hb.mono HBz.out.size); have HKd := (HY5.out _ HBw.out).1; rw [show decide ((k : Int) + 1 = (k : Int) + 1 ∧ listN l (k + 1) = listN l (k + 1)) = true by simp]; clear hb))
        all_goals
          go_wp2_with fail
          go_ret
          exact ⟨rfl, (HX.out _ (HY5.out _ HBw.out).2.2).2.2.2⟩
      · have hm3 : m + 1 = 1 ∨ m + 1 = 2 := by omega
        have hk20 : k ≤ 20 := by omega
        have hcb : 0 ≤ calls ∧ calls ≤ 1000 := by omega
        refine (save_falls (HE.out.below (HX.out _ HQ.out).2.2.2) (by decide) (Nat.le_of_lt hx1) HD.out hm3 hk20 hcb hs3 HY.out qs).mono ?_
        rintro r wd ⟨rfl, pb7, P7, calls7, fuse7, hD, hc2, hc3, ⟨R, hS⟩, hby, hk7⟩
        replace HQ := Lib.hid (HQ.out.trans (HD.out.out hk7 (by omega) (fun z hz => hz)))
        replace HD := Lib.hid hD
        have HS := Lib.hid hS
        have HBY := Lib.hid hby
        clear hD hk7 HY hS hby
        obtain ⟨_, _, hq2, _⟩ := HX.out _ HQ.out
        have HQ2 := Lib.hid hq2
        have hs4 := HQ.out.size
        clear hq2
        go_wp2_with fail
        refine (da_crash HD.out (by decide) (by omega) HQ2.out HQB.out).mono ?_
        rintro r we ⟨rfl, pb8, hD, hp8, hk8⟩
        replace HQ := Lib.hid (HQ.out.trans (HD.out.out hk8 (by omega) (fun z hz => hz.elim .inl (fun h => .inr (.inl h)))))
        replace HD := Lib.hid hD
        clear hD hk8 HQ2
        generalize crashTo (rdS zeroS P7) (keysA P7) qs (savF (listN l) k) = g at HD HS HBY
        have hLs : loadL (rdS g []) = R := by rw [rdS_nil']; exact HS.out.1
        have HLs := Lib.hid hLs
        clear hLs
        go_wp2_with fail
        refine (load_own (HE.out.below (HX.out _ HQ.out).2.2.2) (by decide) (by decide) HD.out (by decide) (by decide) (fun i => by rw [rdS_nil']; exact HBY.out i)).mono ?_
        rintro r wf ⟨hb, v13, rfl, hV, hown⟩
        rw [HLs.out] at hV ⊢
        have hs6 := HQ.out.size
        have hd6 := HD.out.lt
        replace HQ : Hid (Below w1.heap.size w1 wf) := HQ.out.trans (hb.mono HQ.out.size)
        replace HD := Lib.hid (HD.out.below hb)
        have hs7 := hb.size
        have HOW := Lib.hid hown
        clear hb HLs hown
        rw [show ev p 8 = Value.iface 236 (.pointer (some (p 8))) from rfl]
        rcases stage_cases HS.out with ⟨j, hRj, hj1, hj2⟩ | ⟨hRj, hk0⟩
        · have hj21 : j ≤ 20 := by omega
          rcases hj2 with hj2 | hj2
          · skip
            have HJ := Lib.hid hj2
            clear hj2
            subst hRj
            simp only at hV ⊢
            rw [decide_eq_true (show (0 : Int) < (j : Int) by omega)]
            obtain ⟨av, cv, rfl, _, _⟩ := hV.len
            have HA : Hid (RootAt we.heap.size (wf.alloc (.cells #[.int .i64 (j : Int), .slice av (listN l j).length cv] 48)) wf.heap.size (j : Int) (.slice av (listN l j).length cv) (listN l j)) := RootAt.new _ hV (fun g hg => Nat.le_of_lt (HOW.out g hg)) hs7
            obtain ⟨wy, hwy⟩ : ∃ wy, wy = wf.alloc (.cells #[.int .i64 (j : Int), .slice av (listN l j).length cv] 48) := ⟨_, rfl⟩
            rw [← hwy] at HA
            have hby : Below wf.heap.size wf wy := by rw [hwy]; (repeat (first | exact Below.refl _ _ | assumption | refine Below.drew ?_ | refine below_many ?_ _ | refine Below.alloc ?_ (by first | (simp; done) | (simp; omega) | omega) _ | refine Below.setCell ?_ (by first | (simp; done) | (simp; omega) | omega) _))
            replace HQ : Hid (Below w1.heap.size w1 wy) := HQ.out.trans (hby.mono HQ.out.size)
            replace HD := Lib.hid (HD.out.below hby)
            have HWY := Lib.hid hwy
            clear hby hwy hV HOW
            go_wp2_with fail
            rw [← HWY.out]
            refine (is_ev (HE.out.below (HX.out _ HQ.out).2.2.2) (k := 8) (by decide) 109).mono ?_
            rintro r w8 ⟨rfl, hb⟩
            rw [show ((101 + ((8 : Nat) : Int)) == 109) = true from rfl]
            replace HA := Lib.hid (HA.out.below hb)
            replace HQ : Hid (Below w1.heap.size w1 w8) := HQ.out.trans (hb.mono HQ.out.size)
            replace HD := Lib.hid (HD.out.below hb)
            clear hb HWY
            have c0 := HA.out.c0
            have c1 := HA.out.c1
            have hrl := HA.out.lt
            have hj3 : (j : Int) = (k : Int) + 1 := by have := HJ.out; omega
            have hq1 : ((j : Int) != (k : Int) + 1) = false := by simp [hj3]
            have hq0 : ((j : Int) != (k : Int)) = true := by simp; omega
            clear hj3
            go_wp2_with fail
            have hb8 : Below w8.heap.size w8 w8.drew := (Below.refl _ _).drew
            have HAd := Lib.hid (HA.out.below hb8)
            have HQd : Hid (Below w1.heap.size w1 w8.drew) := HQ.out.trans (hb8.mono HQ.out.size)
            have HDd := Lib.hid (HD.out.below hb8)
            have HKa : w8.drew.cell? ⟨wf.heap.size, 0, none⟩ = some (.int .i64 (j : Int)) ∧ w8.drew.cell? ⟨wf.heap.size, 1, none⟩ = some (.slice av (listN l j).length cv) := ⟨HAd.out.c0, HAd.out.c1⟩
            obtain ⟨z2, hzl, _, _⟩ := HX.out _ HQd.out
            have HZL := Lib.hid hzl
            have hwlt : w.heap.size < w8.drew.heap.size := by have := HQd.out.size; omega
            have HN3 := Lib.hid (listN_len l j)
            clear c0 c1 hzl hb8
            go_region_held3 (fun wq => wq.cell? ⟨wf.heap.size, 0, none⟩ = some (.int .i64 (j : Int)) ∧ wq.cell? ⟨wf.heap.size, 1, none⟩ = some (.slice av (listN l j).length cv))
              (first | exact HKd | exact HKc | exact HKb | exact HKa)
              (first
                | (go_at_call 38; go_loud (refine (list_calls z2 HZL.out j (by omega) hwlt).mono ?_); rintro r wg ⟨u, rfl, hR, hb⟩; have HAe := Lib.hid (HAd.out.below hb); have HQe : Hid (Below w1.heap.size w1 wg) := HQd.out.trans (hb.mono HQd.out.size); have HDe := Lib.hid (HDd.out.below hb); have HKb := And.intro HAe.out.c0 HAe.out.c1; obtain ⟨ag, cg, hvg, _, _⟩ := hR.len; subst hvg; have HR := Lib.hid hR; clear hR hb)
                | (go_at_call 32; refine (made_calls (j : Int) HR.out (by have := HN3.out; omega)).mono ?_; rintro r wh ⟨u13, rfl, hO, hb⟩; have HAf := Lib.hid (HAe.out.below hb); have HQf : Hid (Below w1.heap.size w1 wh) := HQe.out.trans (hb.mono HQe.out.size); have HDf := Lib.hid (HDe.out.below hb); have HKc := And.intro HAf.out.c0 HAf.out.c1; have HU := Lib.hid hO.rdK; obtain ⟨a13, c13, rfl⟩ := hO.len; clear hO hb)
                | (go_at_call 35; refine (same_calls (j : Int) (j : Int) HAf.out.rd HU.out).mono ?_; rintro r wi ⟨rfl, hb⟩; have HAg := Lib.hid (HAf.out.below hb); have HQg : Hid (Below w1.heap.size w1 wi) := HQf.out.trans (hb.mono HQf.out.size); have HDg := Lib.hid (HDf.out.below hb); have HKd := And.intro HAg.out.c0 HAg.out.c1; rw [show decide ((j : Int) = (j : Int) ∧ listN l j = listN l j) = true by simp]; clear hb))
            all_goals
              clear HA HQ HD HAd HQd HDd HAe HQe HDe HAf HQf HDf HR HU HZL z2 HKa HKb HKc hwlt hrl hs3 hs4 hs6
              have hsg := HAg.out.lt
              obtain ⟨c0, c1⟩ := HKd
              go_wp2_with fail
              refine (da_arm HDg.out 2).mono ?_
              rintro r w9 ⟨rfl, hD, hk⟩
              rw [if_neg (by decide)] at hD
              have HA := Lib.hid (HAg.out.keep hk (fun x hx => by rw [hx]; exact hd6.1))
              have HQ : Hid (Below w1.heap.size w1 w9) := HQg.out.trans (HDg.out.out hk HQg.out.size (fun z hz => .inl hz))
              have HD := Lib.hid hD
              clear HAg HQg HDg hD hk c0 c1 hsg
              go_wp2_with fail
              refine (made_calls ((j : Int) + 1) (rdK_three w9 1 2 3 _) (by decide)).mono ?_
              rintro r w10 ⟨u3, rfl, hO, hb⟩
              have HY := Lib.hid hO.rdK
              have hbb : Below w9.heap.size w9 w10 := ((Below.refl w9.heap.size w9).alloc (Nat.le_refl _) (.cells #[.int .i64 1, .int .i64 2, .int .i64 3] 3)).trans (hb.mono (by simp))
              replace HA := Lib.hid (HA.out.below hbb)
              replace HQ : Hid (Below w1.heap.size w1 w10) := HQ.out.trans (hbb.mono HQ.out.size)
              replace HD := Lib.hid (HD.out.below hbb)
              obtain ⟨a3, c3, rfl⟩ := hO.len
              have hokn : rootOk ((j : Int) + 1) [1, 2, 3] := ⟨⟨by omega, by omega⟩, by intro z hz; simp at hz; omega, by simp⟩
              have HOKN := Lib.hid hokn
              have hs10 := HQ.out.size
              clear hb hbb hO hokn
              go_wp2_with fail
              refine (save_gone2 (HE.out.below (HX.out _ HQ.out).2.2.2) (by decide) (Nat.le_of_lt hx1) HD.out (by decide) (by decide) (by decide) rfl rfl (by omega) hs10 HY.out HOKN.out).mono ?_
              rintro r w11 ⟨rfl, hD, hk⟩
              replace HA := Lib.hid (HA.out.keep hk (fun x hx => by rcases hx with rfl | rfl | rfl <;> omega))
              replace HQ : Hid (Below w1.heap.size w1 w11) := HQ.out.trans (HD.out.out hk hs10 (fun z hz => hz))
              replace HD := Lib.hid hD
              obtain ⟨_, _, hq2, _⟩ := HX.out _ HQ.out
              have HQ2 := Lib.hid hq2
              have hs11 := HQ.out.size
              clear hD hk hq2 HY
              go_wp2_with fail
              refine (da_crash HD.out (by decide) hs11 HQ2.out HQB.out).mono ?_
              rintro r w12 ⟨rfl, pb9, hD, hp9, hk⟩
              replace hD : DA w1.heap.size w12 (w1.heap.size + 2) w1.heap.size pb9 6 (tornF g ((j : Int) + 1) (rootL ((j : Int) + 1) [1, 2, 3]) qs) [] (calls7 + 1) 0 false := hD
              replace HA := Lib.hid (HA.out.keep hk (fun x hx => by rcases hx with rfl | rfl <;> omega))
              replace HQ : Hid (Below w1.heap.size w1 w12) := HQ.out.trans (HD.out.out hk hs11 (fun z hz => hz.elim .inl (fun h => .inr (.inl h))))
              replace HD := Lib.hid hD
              clear hD hk HQ2
              go_wp2_with fail
              refine (load_own (HE.out.below (HX.out _ HQ.out).2.2.2) (by decide) (by decide) HD.out (by decide) (by decide) (fun i => by rw [rdS_nil']; exact tornF_bytes HBY.out (rootL_bytes _ _ (by decide)) i)).mono ?_
              rintro r w13 ⟨hb, v14, rfl, hV, hown⟩
              rw [rdS_nil'] at hV ⊢
              replace HA := Lib.hid (HA.out.below hb)
              replace HQ : Hid (Below w1.heap.size w1 w13) := HQ.out.trans (hb.mono HQ.out.size)
              replace HD := Lib.hid (HD.out.below hb)
              have hs13 := HA.out.lt
              have c0 := HA.out.c0
              have c1 := HA.out.c1
              have HST2 := Lib.hid (stage2 (listN_all l) k hk20 qs HS.out)
              clear hb hown
              rcases HST2.out with hs | hs
              · simp only at hs
                rw [hs] at hV ⊢
                rw [decide_eq_true (show (0 : Int) < (j : Int) + 1 by omega)]
                simp only at hV ⊢
                obtain ⟨a4, c4, rfl, _, _⟩ := hV.len
                obtain ⟨wz, hwz⟩ : ∃ wz, wz = w13.alloc (.cells #[.int .i64 ((j : Int) + 1), .slice a4 3 c4] 48) := ⟨_, rfl⟩
                have HS4 : Hid (RootAt 0 wz w13.heap.size ((j : Int) + 1) (.slice a4 3 c4) ([1, 2, 3])) := by rw [hwz]; exact RootAt.new _ hV (fun _ _ => Nat.zero_le _) (Nat.zero_le _)
                have hbz : Below w13.heap.size w13 wz.drew := by rw [hwz]; exact ((Below.refl _ _).alloc (Nat.le_refl _) _).drew
                have hbz2 : Below wz.heap.size wz wz.drew := (Below.refl _ _).drew
                have HA4 := Lib.hid (HA.out.below hbz)
                have HQ4 : Hid (Below w1.heap.size w1 wz.drew) := HQ.out.trans (hbz.mono HQ.out.size)
                have HD4 := Lib.hid (HD.out.below hbz)
                replace HS4 := Lib.hid (HS4.out.below hbz2)
                have HWZ := Lib.hid hwz
                clear hbz hbz2 hwz hV hs c0 c1
                go_wp2_with fail
                rw [← HWZ.out]
                have HKa := And.intro HA4.out.c0 (And.intro HA4.out.c1 (And.intro HS4.out.c0 HS4.out.c1))
                have hwr : IntKind.i64.wrap (((j : Int) + 1) + 1) = ((j : Int) + 1) + 1 := IntWalk.i64_in _ (by omega)
                refine wp_region_held_drew (S := (fun wq => wq.cell? ⟨wf.heap.size, 0, none⟩ = some (.int .i64 (j : Int)) ∧ wq.cell? ⟨wf.heap.size, 1, none⟩ = some (.slice av (listN l j).length cv) ∧ wq.cell? ⟨w13.heap.size, 0, none⟩ = some (.int .i64 ((j : Int) + 1)) ∧ wq.cell? ⟨w13.heap.size, 1, none⟩ = some (.slice a4 3 c4))) (by kernel_rfl) HKa (fun hHeld => ?_)
                refine wpAnyH_take (i := 0) (v := (.nilIface)) rfl (by kernel_rfl) (by kernel_rfl) (by kernel_rfl) (fun _ _ _ h => h) (Or.inl ⟨by rfl, fun w hSw => by (go_simp)⟩) hHeld ?_
                (try simp only [Act.put, List.getElem_toArray, List.getElem_cons_succ, List.getElem_cons_zero, List.setIfInBounds_toArray, List.set_cons_zero, List.set_cons_succ])
                refine wpAnyH_take (i := 1) (v := (.bool false)) rfl (by kernel_rfl) (by kernel_rfl) (by kernel_rfl) (fun _ _ _ h => h) (Or.inl ⟨by rfl, fun w hSw => by (go_simp)⟩) hHeld ?_
                (try simp only [Act.put, List.getElem_toArray, List.getElem_cons_succ, List.getElem_cons_zero, List.setIfInBounds_toArray, List.set_cons_zero, List.set_cons_succ])
                refine wpAnyH_take (i := 2) (v := (.bool false)) rfl (by kernel_rfl) (by kernel_rfl) (by kernel_rfl) (fun _ _ _ h => h) (Or.inl ⟨by rfl, fun w hSw => by (go_simp)⟩) hHeld ?_
                (try simp only [Act.put, List.getElem_toArray, List.getElem_cons_succ, List.getElem_cons_zero, List.setIfInBounds_toArray, List.set_cons_zero, List.set_cons_succ])
                refine wpAnyH_take (i := 3) (v := (.bool true)) rfl (by kernel_rfl) (by kernel_rfl) (by kernel_rfl) (fun _ _ _ h => h) (Or.inl ⟨by rfl, fun w hSw => by (go_simp)⟩) hHeld ?_
                (try simp only [Act.put, List.getElem_toArray, List.getElem_cons_succ, List.getElem_cons_zero, List.setIfInBounds_toArray, List.set_cons_zero, List.set_cons_succ])
                refine wpAnyH_take (i := 4) (v := (.bool true)) rfl (by kernel_rfl) (by kernel_rfl) (by kernel_rfl) (fun _ _ _ h => h) (Or.inl ⟨by rfl, fun w hSw => by (go_simp)⟩) hHeld ?_
                (try simp only [Act.put, List.getElem_toArray, List.getElem_cons_succ, List.getElem_cons_zero, List.setIfInBounds_toArray, List.set_cons_zero, List.set_cons_succ])
                refine wpAnyH_take (i := 5) (v := (.bool true)) rfl (by kernel_rfl) (by kernel_rfl) (by kernel_rfl) (fun _ _ _ h => h) (Or.inl ⟨by rfl, fun w hSw => by (go_simp)⟩) hHeld ?_
                (try simp only [Act.put, List.getElem_toArray, List.getElem_cons_succ, List.getElem_cons_zero, List.setIfInBounds_toArray, List.set_cons_zero, List.set_cons_succ])
                refine wpAnyH_take (i := 6) (v := undef) rfl (by kernel_rfl) (by kernel_rfl) (by kernel_rfl) (fun _ _ _ h => h) (Or.inr ⟨by rfl, rfl⟩) hHeld ?_
                (try simp only [Act.put, List.getElem_toArray, List.getElem_cons_succ, List.getElem_cons_zero, List.setIfInBounds_toArray, List.set_cons_zero, List.set_cons_succ])
                refine wpAnyH_take (i := 7) (v := undef) rfl (by kernel_rfl) (by kernel_rfl) (by kernel_rfl) (fun _ _ _ h => h) (Or.inr ⟨by rfl, rfl⟩) hHeld ?_
                (try simp only [Act.put, List.getElem_toArray, List.getElem_cons_succ, List.getElem_cons_zero, List.setIfInBounds_toArray, List.set_cons_zero, List.set_cons_succ])
                refine wpAnyH_take (i := 8) (v := undef) rfl (by kernel_rfl) (by kernel_rfl) (by kernel_rfl) (fun _ _ _ h => h) (Or.inr ⟨by rfl, rfl⟩) hHeld ?_
                (try simp only [Act.put, List.getElem_toArray, List.getElem_cons_succ, List.getElem_cons_zero, List.setIfInBounds_toArray, List.set_cons_zero, List.set_cons_succ])
                refine wpAnyH_take (i := 9) (v := undef) rfl (by kernel_rfl) (by kernel_rfl) (by kernel_rfl) (fun _ _ _ h => h) (Or.inr ⟨by rfl, rfl⟩) hHeld ?_
                (try simp only [Act.put, List.getElem_toArray, List.getElem_cons_succ, List.getElem_cons_zero, List.setIfInBounds_toArray, List.set_cons_zero, List.set_cons_succ])
                refine wpAnyH_take (i := 10) (v := (.bool true)) rfl (by kernel_rfl) (by kernel_rfl) (by kernel_rfl) (fun _ _ _ h => h) (Or.inl ⟨by rfl, fun w hSw => by (go_simp)⟩) hHeld ?_
                (try simp only [Act.put, List.getElem_toArray, List.getElem_cons_succ, List.getElem_cons_zero, List.setIfInBounds_toArray, List.set_cons_zero, List.set_cons_succ])
                refine wpAnyH_take (i := 11) (v := (.bool false)) rfl (by kernel_rfl) (by kernel_rfl) (by kernel_rfl) (fun _ _ _ h => h) (Or.inl ⟨by rfl, fun w hSw => by (go_simp)⟩) hHeld ?_
                (try simp only [Act.put, List.getElem_toArray, List.getElem_cons_succ, List.getElem_cons_zero, List.setIfInBounds_toArray, List.set_cons_zero, List.set_cons_succ])
                refine wpAnyH_take (i := 12) (v := (.bool false)) rfl (by kernel_rfl) (by kernel_rfl) (by kernel_rfl) (fun _ _ _ h => h) (Or.inl ⟨by rfl, fun w hSw => by (go_simp)⟩) hHeld ?_
                (try simp only [Act.put, List.getElem_toArray, List.getElem_cons_succ, List.getElem_cons_zero, List.setIfInBounds_toArray, List.set_cons_zero, List.set_cons_succ])
                refine wpAnyH_take (i := 13) (v := (.bool false)) rfl (by kernel_rfl) (by kernel_rfl) (by kernel_rfl) (fun _ _ _ h => h) (Or.inl ⟨by rfl, fun w hSw => by (go_simp)⟩) hHeld ?_
                (try simp only [Act.put, List.getElem_toArray, List.getElem_cons_succ, List.getElem_cons_zero, List.setIfInBounds_toArray, List.set_cons_zero, List.set_cons_succ])
                refine wpAnyH_take (i := 14) (v := (.bool true)) rfl (by kernel_rfl) (by kernel_rfl) (by kernel_rfl) (fun _ _ _ h => h) (Or.inl ⟨by rfl, fun w hSw => by (go_simp)⟩) hHeld ?_
                (try simp only [Act.put, List.getElem_toArray, List.getElem_cons_succ, List.getElem_cons_zero, List.setIfInBounds_toArray, List.set_cons_zero, List.set_cons_succ])
                refine wpAnyH_take (i := 15) (v := (.bool true)) rfl (by kernel_rfl) (by kernel_rfl) (by kernel_rfl) (fun _ _ _ h => h) (Or.inl ⟨by rfl, fun w hSw => by (go_simp)⟩) hHeld ?_
                (try simp only [Act.put, List.getElem_toArray, List.getElem_cons_succ, List.getElem_cons_zero, List.setIfInBounds_toArray, List.set_cons_zero, List.set_cons_succ])
                refine wpAnyH_take (i := 16) (v := (.pointer (some ⟨w13.heap.size, 0, none⟩))) rfl (by kernel_rfl) (by kernel_rfl) (by kernel_rfl) (fun _ _ _ h => h) (Or.inl ⟨by rfl, fun w hSw => by (go_simp)⟩) hHeld ?_
                (try simp only [Act.put, List.getElem_toArray, List.getElem_cons_succ, List.getElem_cons_zero, List.setIfInBounds_toArray, List.set_cons_zero, List.set_cons_succ])
                refine wpAnyH_take (i := 17) (v := (.int .i64 ((j : Int) + 1))) rfl (by kernel_rfl) (by kernel_rfl) (by kernel_rfl) (fun _ _ _ h => h) (Or.inl ⟨by rfl, fun w hSw => by (obtain ⟨q0, q1, q2, q3⟩ := hSw; go_simp)⟩) hHeld ?_
                (try simp only [Act.put, List.getElem_toArray, List.getElem_cons_succ, List.getElem_cons_zero, List.setIfInBounds_toArray, List.set_cons_zero, List.set_cons_succ])
                refine wpAnyH_take (i := 18) (v := (.int .i64 ((j : Int) + 1))) rfl (by kernel_rfl) (by kernel_rfl) (by kernel_rfl) (fun _ _ _ h => h) (Or.inl ⟨by rfl, fun w hSw => by (go_simp)⟩) hHeld ?_
                (try simp only [Act.put, List.getElem_toArray, List.getElem_cons_succ, List.getElem_cons_zero, List.setIfInBounds_toArray, List.set_cons_zero, List.set_cons_succ])
                refine wpAnyH_take (i := 19) (v := (.bool false)) rfl (by kernel_rfl) (by kernel_rfl) (by kernel_rfl) (fun _ _ _ h => h) (Or.inl ⟨by rfl, fun w hSw => by (go_simp)⟩) hHeld ?_
                (try simp only [Act.put, List.getElem_toArray, List.getElem_cons_succ, List.getElem_cons_zero, List.setIfInBounds_toArray, List.set_cons_zero, List.set_cons_succ])
                refine wpAnyH_take (i := 20) (v := (.bool false)) rfl (by kernel_rfl) (by kernel_rfl) (by kernel_rfl) (fun _ _ _ h => h) (Or.inl ⟨by rfl, fun w hSw => by (go_simp)⟩) hHeld ?_
                (try simp only [Act.put, List.getElem_toArray, List.getElem_cons_succ, List.getElem_cons_zero, List.setIfInBounds_toArray, List.set_cons_zero, List.set_cons_succ])
                refine wpAnyH_take (i := 21) (v := (.bool false)) rfl (by kernel_rfl) (by kernel_rfl) (by kernel_rfl) (fun _ _ _ h => h) (Or.inl ⟨by rfl, fun w hSw => by (go_simp)⟩) hHeld ?_
                (try simp only [Act.put, List.getElem_toArray, List.getElem_cons_succ, List.getElem_cons_zero, List.setIfInBounds_toArray, List.set_cons_zero, List.set_cons_succ])
                refine wpAnyH_take (i := 22) (v := undef) rfl (by kernel_rfl) (by kernel_rfl) (by kernel_rfl) (fun _ _ _ h => h) (Or.inr ⟨by rfl, rfl⟩) hHeld ?_
                (try simp only [Act.put, List.getElem_toArray, List.getElem_cons_succ, List.getElem_cons_zero, List.setIfInBounds_toArray, List.set_cons_zero, List.set_cons_succ])
                refine wpAnyH_take (i := 23) (v := undef) rfl (by kernel_rfl) (by kernel_rfl) (by kernel_rfl) (fun _ _ _ h => h) (Or.inr ⟨by rfl, rfl⟩) hHeld ?_
                (try simp only [Act.put, List.getElem_toArray, List.getElem_cons_succ, List.getElem_cons_zero, List.setIfInBounds_toArray, List.set_cons_zero, List.set_cons_succ])
                refine wpAnyH_take (i := 24) (v := undef) rfl (by kernel_rfl) (by kernel_rfl) (by kernel_rfl) (fun _ _ _ h => h) (Or.inr ⟨by rfl, rfl⟩) hHeld ?_
                (try simp only [Act.put, List.getElem_toArray, List.getElem_cons_succ, List.getElem_cons_zero, List.setIfInBounds_toArray, List.set_cons_zero, List.set_cons_succ])
                refine wpAnyH_take (i := 25) (v := undef) rfl (by kernel_rfl) (by kernel_rfl) (by kernel_rfl) (fun _ _ _ h => h) (Or.inr ⟨by rfl, rfl⟩) hHeld ?_
                (try simp only [Act.put, List.getElem_toArray, List.getElem_cons_succ, List.getElem_cons_zero, List.setIfInBounds_toArray, List.set_cons_zero, List.set_cons_succ])
                refine wpAnyH_take (i := 26) (v := (.bool false)) rfl (by kernel_rfl) (by kernel_rfl) (by kernel_rfl) (fun _ _ _ h => h) (Or.inl ⟨by rfl, fun w hSw => by (go_simp)⟩) hHeld ?_
                (try simp only [Act.put, List.getElem_toArray, List.getElem_cons_succ, List.getElem_cons_zero, List.setIfInBounds_toArray, List.set_cons_zero, List.set_cons_succ])
                refine wpAnyH_take (i := 27) (v := (.bool false)) rfl (by kernel_rfl) (by kernel_rfl) (by kernel_rfl) (fun _ _ _ h => h) (Or.inl ⟨by rfl, fun w hSw => by (go_simp)⟩) hHeld ?_
                (try simp only [Act.put, List.getElem_toArray, List.getElem_cons_succ, List.getElem_cons_zero, List.setIfInBounds_toArray, List.set_cons_zero, List.set_cons_succ])
                refine wpAnyH_take (i := 28) (v := (.bool false)) rfl (by kernel_rfl) (by kernel_rfl) (by kernel_rfl) (fun _ _ _ h => h) (Or.inl ⟨by rfl, fun w hSw => by (go_simp)⟩) hHeld ?_
                (try simp only [Act.put, List.getElem_toArray, List.getElem_cons_succ, List.getElem_cons_zero, List.setIfInBounds_toArray, List.set_cons_zero, List.set_cons_succ])
                refine wpAnyH_take (i := 29) (v := (.bool true)) rfl (by kernel_rfl) (by kernel_rfl) (by kernel_rfl) (fun _ _ _ h => h) (Or.inl ⟨by rfl, fun w hSw => by (go_simp)⟩) hHeld ?_
                (try simp only [Act.put, List.getElem_toArray, List.getElem_cons_succ, List.getElem_cons_zero, List.setIfInBounds_toArray, List.set_cons_zero, List.set_cons_succ])
                refine wpAnyH_take (i := 30) (v := (.bool true)) rfl (by kernel_rfl) (by kernel_rfl) (by kernel_rfl) (fun _ _ _ h => h) (Or.inl ⟨by rfl, fun w hSw => by (go_simp)⟩) hHeld ?_
                (try simp only [Act.put, List.getElem_toArray, List.getElem_cons_succ, List.getElem_cons_zero, List.setIfInBounds_toArray, List.set_cons_zero, List.set_cons_succ])
                refine wpAnyH_take (i := 31) (v := (.pointer (some ⟨w13.heap.size, 0, none⟩))) rfl (by kernel_rfl) (by kernel_rfl) (by kernel_rfl) (fun _ _ _ h => h) (Or.inl ⟨by rfl, fun w hSw => by (go_simp)⟩) hHeld ?_
                (try simp only [Act.put, List.getElem_toArray, List.getElem_cons_succ, List.getElem_cons_zero, List.setIfInBounds_toArray, List.set_cons_zero, List.set_cons_succ])
                refine wpAnyH_take (i := 32) (v := (.int .i64 ((j : Int) + 1))) rfl (by kernel_rfl) (by kernel_rfl) (by kernel_rfl) (fun _ _ _ h => h) (Or.inl ⟨by rfl, fun w hSw => by (obtain ⟨q0, q1, q2, q3⟩ := hSw; go_simp)⟩) hHeld ?_
                (try simp only [Act.put, List.getElem_toArray, List.getElem_cons_succ, List.getElem_cons_zero, List.setIfInBounds_toArray, List.set_cons_zero, List.set_cons_succ])
                refine wpAnyH_take (i := 33) (v := (.int .i64 ((j : Int) + 1))) rfl (by kernel_rfl) (by kernel_rfl) (by kernel_rfl) (fun _ _ _ h => h) (Or.inl ⟨by rfl, fun w hSw => by (go_simp)⟩) hHeld ?_
                (try simp only [Act.put, List.getElem_toArray, List.getElem_cons_succ, List.getElem_cons_zero, List.setIfInBounds_toArray, List.set_cons_zero, List.set_cons_succ])
                refine wpAnyH_take (i := 34) (v := (.bool true)) rfl (by kernel_rfl) (by kernel_rfl) (by kernel_rfl) (fun _ _ _ h => h) (Or.inl ⟨by rfl, fun w hSw => by (go_simp)⟩) hHeld ?_
                (try simp only [Act.put, List.getElem_toArray, List.getElem_cons_succ, List.getElem_cons_zero, List.setIfInBounds_toArray, List.set_cons_zero, List.set_cons_succ])
                refine wpAnyH_take (i := 35) (v := (.bool true)) rfl (by kernel_rfl) (by kernel_rfl) (by kernel_rfl) (fun _ _ _ h => h) (Or.inl ⟨by rfl, fun w hSw => by (go_simp)⟩) hHeld ?_
                (try simp only [Act.put, List.getElem_toArray, List.getElem_cons_succ, List.getElem_cons_zero, List.setIfInBounds_toArray, List.set_cons_zero, List.set_cons_succ])
                refine wpAnyH_take (i := 36) (v := (.bool true)) rfl (by kernel_rfl) (by kernel_rfl) (by kernel_rfl) (fun _ _ _ h => h) (Or.inl ⟨by rfl, fun w hSw => by (go_simp)⟩) hHeld ?_
                (try simp only [Act.put, List.getElem_toArray, List.getElem_cons_succ, List.getElem_cons_zero, List.setIfInBounds_toArray, List.set_cons_zero, List.set_cons_succ])
                refine wpAnyH_take (i := 37) (v := (rootV ((j : Int) + 1) (.slice a4 3 c4))) rfl (by kernel_rfl) (by kernel_rfl) (by kernel_rfl) (fun _ _ _ h => h) (Or.inl ⟨by rfl, fun w hSw => by (obtain ⟨q0, q1, q2, q3⟩ := hSw; go_simp)⟩) hHeld ?_
                (try simp only [Act.put, List.getElem_toArray, List.getElem_cons_succ, List.getElem_cons_zero, List.setIfInBounds_toArray, List.set_cons_zero, List.set_cons_succ])
                refine wpAnyH_take (i := 38) (v := (.int .i64 ((j : Int) + 1))) rfl (by kernel_rfl) (by kernel_rfl) (by kernel_rfl) (fun _ _ _ h => h) (Or.inl ⟨by rfl, fun w hSw => by (go_simp)⟩) hHeld ?_
                (try simp only [Act.put, List.getElem_toArray, List.getElem_cons_succ, List.getElem_cons_zero, List.setIfInBounds_toArray, List.set_cons_zero, List.set_cons_succ])
                refine wpAnyH_ready (rs := [39]) (by kernel_rfl) (by simp) ?_
                refine AllReadyH.cons rfl (fun K hK => ?_) AllReadyH.nil
                go_simp
                go_wp2_with (fail)
                refine hK.out _ _ ?_ (fun hHeld2 => ?_)
                · exact (show _ from ⟨(HA4.out.below ((Below.refl _ _).alloc (Nat.le_refl _) _)).c0, (HA4.out.below ((Below.refl _ _).alloc (Nat.le_refl _) _)).c1, (HS4.out.below ((Below.refl _ _).alloc (Nat.le_refl _) _)).c0, (HS4.out.below ((Below.refl _ _).alloc (Nat.le_refl _) _)).c1⟩)
                clear hHeld hK K
                have hHeld := hHeld2
                clear hHeld2
                (try simp only [Act.put, List.getElem_toArray, List.getElem_cons_succ, List.getElem_cons_zero, List.setIfInBounds_toArray, List.set_cons_zero, List.set_cons_succ])
                refine wpAnyH_ready (rs := [40]) (by kernel_rfl) (by simp) ?_
                refine AllReadyH.cons rfl (fun K hK => ?_) AllReadyH.nil
                go_simp
                go_wp2_with (go_at_call 32; go_loud (refine (made_calls ((j : Int) + 1) ((rdK_three wz 1 2 3 _).below (Below.refl _ _).drew) (by decide)).mono ?_); go_loud (rintro r w15 ⟨u15, rfl, hO, hb⟩); go_loud (have hbb : Below wz.drew.heap.size wz.drew w15 := (show Below wz.drew.heap.size wz.drew ((wz.alloc (.cells #[.int .i64 1, .int .i64 2, .int .i64 3] 3)).drew) from (Below.refl wz.drew.heap.size wz.drew).alloc (Nat.le_refl _) (.cells #[.int .i64 1, .int .i64 2, .int .i64 3] 3)).trans (hb.mono (show wz.heap.size ≤ (wz.alloc (.cells #[.int .i64 1, .int .i64 2, .int .i64 3] 3)).heap.size by simp))); have HA5 := Lib.hid (HA4.out.below hbb); have HS5 := Lib.hid (HS4.out.below hbb); have HQ5 : Hid (Below w1.heap.size w1 w15) := HQ4.out.trans (hbb.mono HQ4.out.size); have HD5 := Lib.hid (HD4.out.below hbb); have HU := Lib.hid hO.rdK; obtain ⟨a15, c15, rfl⟩ := hO.len; clear hO hb hbb)
                refine hK.out _ _ ?_ (fun hHeld2 => ?_)
                · exact ⟨HA5.out.c0, HA5.out.c1, HS5.out.c0, HS5.out.c1⟩
                clear hHeld hK K
                have hHeld := hHeld2
                clear hHeld2
                (try simp only [Act.put, List.getElem_toArray, List.getElem_cons_succ, List.getElem_cons_zero, List.setIfInBounds_toArray, List.set_cons_zero, List.set_cons_succ])
                refine wpAnyH_ready (rs := [41]) (by kernel_rfl) (by simp) ?_
                refine AllReadyH.cons rfl (fun K hK => ?_) AllReadyH.nil
                go_simp
                go_wp2_with (go_at_call 35; refine (same_calls ((j : Int) + 1) ((j : Int) + 1) HS5.out.rd HU.out).mono ?_; rintro r w16 ⟨rfl, hb⟩; have HA6 := Lib.hid (HA5.out.below hb); have HS6 := Lib.hid (HS5.out.below hb); have HQz : Hid (Below w1.heap.size w1 w16) := HQ5.out.trans (hb.mono HQ5.out.size); have HDz := Lib.hid (HD5.out.below hb); rw [show decide (((j : Int) + 1) = ((j : Int) + 1) ∧ ([1, 2, 3] : List Int) = [1, 2, 3]) = true by simp]; clear hb)
                refine hK.out _ _ ?_ (fun hHeld2 => ?_)
                · exact ⟨HA6.out.c0, HA6.out.c1, HS6.out.c0, HS6.out.c1⟩
                clear hHeld hK K
                have hHeld := hHeld2
                clear hHeld2
                (try simp only [Act.put, List.getElem_toArray, List.getElem_cons_succ, List.getElem_cons_zero, List.setIfInBounds_toArray, List.set_cons_zero, List.set_cons_succ])
                refine wpAnyH_take (i := 42) (v := (.bool false)) rfl (by kernel_rfl) (by kernel_rfl) (by kernel_rfl) (fun _ _ _ h => h) (Or.inl ⟨by rfl, fun w hSw => by (go_simp)⟩) hHeld ?_
                (try simp only [Act.put, List.getElem_toArray, List.getElem_cons_succ, List.getElem_cons_zero, List.setIfInBounds_toArray, List.set_cons_zero, List.set_cons_succ])
                refine wpAnyH_take (i := 43) (v := (.bool false)) rfl (by kernel_rfl) (by kernel_rfl) (by kernel_rfl) (fun _ _ _ h => h) (Or.inl ⟨by rfl, fun w hSw => by (go_simp)⟩) hHeld ?_
                (try simp only [Act.put, List.getElem_toArray, List.getElem_cons_succ, List.getElem_cons_zero, List.setIfInBounds_toArray, List.set_cons_zero, List.set_cons_succ])
                refine wpAnyH_take (i := 44) (v := (.bool false)) rfl (by kernel_rfl) (by kernel_rfl) (by kernel_rfl) (fun _ _ _ h => h) (Or.inl ⟨by rfl, fun w hSw => by (go_simp)⟩) hHeld ?_
                (try simp only [Act.put, List.getElem_toArray, List.getElem_cons_succ, List.getElem_cons_zero, List.setIfInBounds_toArray, List.set_cons_zero, List.set_cons_succ])
                refine wpAnyH_done (by kernel_rfl) ?_ _
                have c2 := HS6.out.c0
                have hs16 := HS6.out.lt
                go_wp2_with fail
                refine (made_calls (((j : Int) + 1) + 1) (rdK_one .i64 _ 4 _) (by decide)).mono ?_
                rintro r w17 ⟨u17, rfl, hO, hb⟩
                have HY := Lib.hid hO.rdK
                have hbb : Below w16.heap.size w16 w17 := ((Below.refl w16.heap.size w16).alloc (Nat.le_refl _) (.cells #[.int .i64 4] 3)).trans (hb.mono (by simp))
                have HQ9 : Hid (Below w1.heap.size w1 w17) := HQz.out.trans (hbb.mono HQz.out.size)
                have HD9 := Lib.hid (HDz.out.below hbb)
                obtain ⟨a17, c17, rfl⟩ := hO.len
                have hok9 : rootOk (((j : Int) + 1) + 1) [4] := ⟨⟨by omega, by omega⟩, by intro z hz; simp at hz; omega, by simp⟩
                have HOK9 := Lib.hid hok9
                have hs17 := HQ9.out.size
                clear hb hbb hO hok9
                go_wp2_with fail
                refine (save_ok HD9.out (by decide) (by decide) (by decide) rfl rfl (by omega) hs17 HY.out HOK9.out).mono ?_
                rintro r w18 ⟨rfl, pb18, hD, hp18, hk⟩
                have HFin := Lib.hid (HX.out _ (HQ9.out.trans (HD9.out.out hk hs17 (fun z hz => hz)))).2.2.2
                clear hD hk
                go_wp2_with fail
                go_ret
                exact ⟨rfl, HFin.out⟩
              · simp only at hs
                rw [hs] at hV ⊢
                rw [decide_eq_true (show (0 : Int) < (j : Int) by omega)]
                simp only at hV ⊢
                obtain ⟨a4, c4, rfl, _, _⟩ := hV.len
                obtain ⟨wz, hwz⟩ : ∃ wz, wz = w13.alloc (.cells #[.int .i64 (j : Int), .slice a4 (listN l j).length c4] 48) := ⟨_, rfl⟩
                have HS4 : Hid (RootAt 0 wz w13.heap.size (j : Int) (.slice a4 (listN l j).length c4) (listN l j)) := by rw [hwz]; exact RootAt.new _ hV (fun _ _ => Nat.zero_le _) (Nat.zero_le _)
                have hbz : Below w13.heap.size w13 wz.drew := by rw [hwz]; exact ((Below.refl _ _).alloc (Nat.le_refl _) _).drew
                have hbz2 : Below wz.heap.size wz wz.drew := (Below.refl _ _).drew
                have HA4 := Lib.hid (HA.out.below hbz)
                have HQ4 : Hid (Below w1.heap.size w1 wz.drew) := HQ.out.trans (hbz.mono HQ.out.size)
                have HD4 := Lib.hid (HD.out.below hbz)
                replace HS4 := Lib.hid (HS4.out.below hbz2)
                have HWZ := Lib.hid hwz
                clear hbz hbz2 hwz hV hs c0 c1
                go_wp2_with fail
                rw [← HWZ.out]
                have HKa := And.intro HA4.out.c0 (And.intro HA4.out.c1 (And.intro HS4.out.c0 HS4.out.c1))
                have hwr : IntKind.i64.wrap ((j : Int) + 1) = (j : Int) + 1 := IntWalk.i64_in _ (by omega)
                have hn1 : ((j : Int) != (j : Int) + 1) = true := by rw [bne_iff_ne]; omega
                have hn2 : ((j : Int) == (j : Int) + 1) = false := by rw [beq_eq_false_iff_ne]; omega
                refine wp_region_held_drew (S := (fun wq => wq.cell? ⟨wf.heap.size, 0, none⟩ = some (.int .i64 (j : Int)) ∧ wq.cell? ⟨wf.heap.size, 1, none⟩ = some (.slice av (listN l j).length cv) ∧ wq.cell? ⟨w13.heap.size, 0, none⟩ = some (.int .i64 (j : Int)) ∧ wq.cell? ⟨w13.heap.size, 1, none⟩ = some (.slice a4 (listN l j).length c4))) (by kernel_rfl) HKa (fun hHeld => ?_)
                refine wpAnyH_take (i := 0) (v := (.nilIface)) rfl (by kernel_rfl) (by kernel_rfl) (by kernel_rfl) (fun _ _ _ h => h) (Or.inl ⟨by rfl, fun w hSw => by (go_simp)⟩) hHeld ?_
                (try simp only [Act.put, List.getElem_toArray, List.getElem_cons_succ, List.getElem_cons_zero, List.setIfInBounds_toArray, List.set_cons_zero, List.set_cons_succ])
                refine wpAnyH_take (i := 1) (v := (.bool false)) rfl (by kernel_rfl) (by kernel_rfl) (by kernel_rfl) (fun _ _ _ h => h) (Or.inl ⟨by rfl, fun w hSw => by (go_simp)⟩) hHeld ?_
                (try simp only [Act.put, List.getElem_toArray, List.getElem_cons_succ, List.getElem_cons_zero, List.setIfInBounds_toArray, List.set_cons_zero, List.set_cons_succ])
                refine wpAnyH_take (i := 2) (v := (.bool false)) rfl (by kernel_rfl) (by kernel_rfl) (by kernel_rfl) (fun _ _ _ h => h) (Or.inl ⟨by rfl, fun w hSw => by (go_simp)⟩) hHeld ?_
                (try simp only [Act.put, List.getElem_toArray, List.getElem_cons_succ, List.getElem_cons_zero, List.setIfInBounds_toArray, List.set_cons_zero, List.set_cons_succ])
                refine wpAnyH_take (i := 3) (v := (.bool true)) rfl (by kernel_rfl) (by kernel_rfl) (by kernel_rfl) (fun _ _ _ h => h) (Or.inl ⟨by rfl, fun w hSw => by (go_simp)⟩) hHeld ?_
                (try simp only [Act.put, List.getElem_toArray, List.getElem_cons_succ, List.getElem_cons_zero, List.setIfInBounds_toArray, List.set_cons_zero, List.set_cons_succ])
                refine wpAnyH_take (i := 4) (v := (.bool true)) rfl (by kernel_rfl) (by kernel_rfl) (by kernel_rfl) (fun _ _ _ h => h) (Or.inl ⟨by rfl, fun w hSw => by (go_simp)⟩) hHeld ?_
                (try simp only [Act.put, List.getElem_toArray, List.getElem_cons_succ, List.getElem_cons_zero, List.setIfInBounds_toArray, List.set_cons_zero, List.set_cons_succ])
                refine wpAnyH_take (i := 5) (v := (.bool true)) rfl (by kernel_rfl) (by kernel_rfl) (by kernel_rfl) (fun _ _ _ h => h) (Or.inl ⟨by rfl, fun w hSw => by (go_simp)⟩) hHeld ?_
                (try simp only [Act.put, List.getElem_toArray, List.getElem_cons_succ, List.getElem_cons_zero, List.setIfInBounds_toArray, List.set_cons_zero, List.set_cons_succ])
                refine wpAnyH_take (i := 6) (v := undef) rfl (by kernel_rfl) (by kernel_rfl) (by kernel_rfl) (fun _ _ _ h => h) (Or.inr ⟨by rfl, rfl⟩) hHeld ?_
                (try simp only [Act.put, List.getElem_toArray, List.getElem_cons_succ, List.getElem_cons_zero, List.setIfInBounds_toArray, List.set_cons_zero, List.set_cons_succ])
                refine wpAnyH_take (i := 7) (v := undef) rfl (by kernel_rfl) (by kernel_rfl) (by kernel_rfl) (fun _ _ _ h => h) (Or.inr ⟨by rfl, rfl⟩) hHeld ?_
                (try simp only [Act.put, List.getElem_toArray, List.getElem_cons_succ, List.getElem_cons_zero, List.setIfInBounds_toArray, List.set_cons_zero, List.set_cons_succ])
                refine wpAnyH_take (i := 8) (v := undef) rfl (by kernel_rfl) (by kernel_rfl) (by kernel_rfl) (fun _ _ _ h => h) (Or.inr ⟨by rfl, rfl⟩) hHeld ?_
                (try simp only [Act.put, List.getElem_toArray, List.getElem_cons_succ, List.getElem_cons_zero, List.setIfInBounds_toArray, List.set_cons_zero, List.set_cons_succ])
                refine wpAnyH_take (i := 9) (v := undef) rfl (by kernel_rfl) (by kernel_rfl) (by kernel_rfl) (fun _ _ _ h => h) (Or.inr ⟨by rfl, rfl⟩) hHeld ?_
                (try simp only [Act.put, List.getElem_toArray, List.getElem_cons_succ, List.getElem_cons_zero, List.setIfInBounds_toArray, List.set_cons_zero, List.set_cons_succ])
                refine wpAnyH_take (i := 10) (v := (.bool true)) rfl (by kernel_rfl) (by kernel_rfl) (by kernel_rfl) (fun _ _ _ h => h) (Or.inl ⟨by rfl, fun w hSw => by (go_simp)⟩) hHeld ?_
                (try simp only [Act.put, List.getElem_toArray, List.getElem_cons_succ, List.getElem_cons_zero, List.setIfInBounds_toArray, List.set_cons_zero, List.set_cons_succ])
                refine wpAnyH_take (i := 11) (v := (.bool false)) rfl (by kernel_rfl) (by kernel_rfl) (by kernel_rfl) (fun _ _ _ h => h) (Or.inl ⟨by rfl, fun w hSw => by (go_simp)⟩) hHeld ?_
                (try simp only [Act.put, List.getElem_toArray, List.getElem_cons_succ, List.getElem_cons_zero, List.setIfInBounds_toArray, List.set_cons_zero, List.set_cons_succ])
                refine wpAnyH_take (i := 12) (v := (.bool false)) rfl (by kernel_rfl) (by kernel_rfl) (by kernel_rfl) (fun _ _ _ h => h) (Or.inl ⟨by rfl, fun w hSw => by (go_simp)⟩) hHeld ?_
                (try simp only [Act.put, List.getElem_toArray, List.getElem_cons_succ, List.getElem_cons_zero, List.setIfInBounds_toArray, List.set_cons_zero, List.set_cons_succ])
                refine wpAnyH_take (i := 13) (v := (.bool false)) rfl (by kernel_rfl) (by kernel_rfl) (by kernel_rfl) (fun _ _ _ h => h) (Or.inl ⟨by rfl, fun w hSw => by (go_simp)⟩) hHeld ?_
                (try simp only [Act.put, List.getElem_toArray, List.getElem_cons_succ, List.getElem_cons_zero, List.setIfInBounds_toArray, List.set_cons_zero, List.set_cons_succ])
                refine wpAnyH_take (i := 14) (v := (.bool true)) rfl (by kernel_rfl) (by kernel_rfl) (by kernel_rfl) (fun _ _ _ h => h) (Or.inl ⟨by rfl, fun w hSw => by (go_simp)⟩) hHeld ?_
                (try simp only [Act.put, List.getElem_toArray, List.getElem_cons_succ, List.getElem_cons_zero, List.setIfInBounds_toArray, List.set_cons_zero, List.set_cons_succ])
                refine wpAnyH_take (i := 15) (v := (.bool true)) rfl (by kernel_rfl) (by kernel_rfl) (by kernel_rfl) (fun _ _ _ h => h) (Or.inl ⟨by rfl, fun w hSw => by (go_simp)⟩) hHeld ?_
                (try simp only [Act.put, List.getElem_toArray, List.getElem_cons_succ, List.getElem_cons_zero, List.setIfInBounds_toArray, List.set_cons_zero, List.set_cons_succ])
                refine wpAnyH_take (i := 16) (v := (.pointer (some ⟨w13.heap.size, 0, none⟩))) rfl (by kernel_rfl) (by kernel_rfl) (by kernel_rfl) (fun _ _ _ h => h) (Or.inl ⟨by rfl, fun w hSw => by (go_simp)⟩) hHeld ?_
                (try simp only [Act.put, List.getElem_toArray, List.getElem_cons_succ, List.getElem_cons_zero, List.setIfInBounds_toArray, List.set_cons_zero, List.set_cons_succ])
                refine wpAnyH_take (i := 17) (v := (.int .i64 (j : Int))) rfl (by kernel_rfl) (by kernel_rfl) (by kernel_rfl) (fun _ _ _ h => h) (Or.inl ⟨by rfl, fun w hSw => by (obtain ⟨q0, q1, q2, q3⟩ := hSw; go_simp)⟩) hHeld ?_
                (try simp only [Act.put, List.getElem_toArray, List.getElem_cons_succ, List.getElem_cons_zero, List.setIfInBounds_toArray, List.set_cons_zero, List.set_cons_succ])
                refine wpAnyH_take (i := 18) (v := (.int .i64 ((j : Int) + 1))) rfl (by kernel_rfl) (by kernel_rfl) (by kernel_rfl) (fun _ _ _ h => h) (Or.inl ⟨by rfl, fun w hSw => by (go_simp)⟩) hHeld ?_
                (try simp only [Act.put, List.getElem_toArray, List.getElem_cons_succ, List.getElem_cons_zero, List.setIfInBounds_toArray, List.set_cons_zero, List.set_cons_succ])
                refine wpAnyH_take (i := 19) (v := (.bool true)) rfl (by kernel_rfl) (by kernel_rfl) (by kernel_rfl) (fun _ _ _ h => h) (Or.inl ⟨by rfl, fun w hSw => by (go_simp)⟩) hHeld ?_
                (try simp only [Act.put, List.getElem_toArray, List.getElem_cons_succ, List.getElem_cons_zero, List.setIfInBounds_toArray, List.set_cons_zero, List.set_cons_succ])
                refine wpAnyH_take (i := 20) (v := (.bool true)) rfl (by kernel_rfl) (by kernel_rfl) (by kernel_rfl) (fun _ _ _ h => h) (Or.inl ⟨by rfl, fun w hSw => by (go_simp)⟩) hHeld ?_
                (try simp only [Act.put, List.getElem_toArray, List.getElem_cons_succ, List.getElem_cons_zero, List.setIfInBounds_toArray, List.set_cons_zero, List.set_cons_succ])
                refine wpAnyH_take (i := 21) (v := (.bool true)) rfl (by kernel_rfl) (by kernel_rfl) (by kernel_rfl) (fun _ _ _ h => h) (Or.inl ⟨by rfl, fun w hSw => by (go_simp)⟩) hHeld ?_
                (try simp only [Act.put, List.getElem_toArray, List.getElem_cons_succ, List.getElem_cons_zero, List.setIfInBounds_toArray, List.set_cons_zero, List.set_cons_succ])
                refine wpAnyH_take (i := 22) (v := (rootV (j : Int) (.slice a4 (listN l j).length c4))) rfl (by kernel_rfl) (by kernel_rfl) (by kernel_rfl) (fun _ _ _ h => h) (Or.inl ⟨by rfl, fun w hSw => by (obtain ⟨q0, q1, q2, q3⟩ := hSw; go_simp)⟩) hHeld ?_
                (try simp only [Act.put, List.getElem_toArray, List.getElem_cons_succ, List.getElem_cons_zero, List.setIfInBounds_toArray, List.set_cons_zero, List.set_cons_succ])
                refine wpAnyH_take (i := 23) (v := (rootV (j : Int) (.slice av (listN l j).length cv))) rfl (by kernel_rfl) (by kernel_rfl) (by kernel_rfl) (fun _ _ _ h => h) (Or.inl ⟨by rfl, fun w hSw => by (obtain ⟨q0, q1, q2, q3⟩ := hSw; go_simp)⟩) hHeld ?_
                (try simp only [Act.put, List.getElem_toArray, List.getElem_cons_succ, List.getElem_cons_zero, List.setIfInBounds_toArray, List.set_cons_zero, List.set_cons_succ])
                refine wpAnyH_ready (rs := [24]) (by kernel_rfl) (by simp) ?_
                refine AllReadyH.cons rfl (fun K hK => ?_) AllReadyH.nil
                go_simp
                go_wp2_with (go_at_call 35; refine (same_calls (j : Int) (j : Int) HS4.out.rd HA4.out.rd).mono ?_; rintro r w16 ⟨rfl, hb⟩; have HA6 := Lib.hid (HA4.out.below hb); have HS6 := Lib.hid (HS4.out.below hb); have HQz : Hid (Below w1.heap.size w1 w16) := HQ4.out.trans (hb.mono HQ4.out.size); have HDz := Lib.hid (HD4.out.below hb); rw [show decide ((j : Int) = (j : Int) ∧ listN l j = listN l j) = true by simp]; clear hb)
                refine hK.out _ _ ?_ (fun hHeld2 => ?_)
                · exact ⟨HA6.out.c0, HA6.out.c1, HS6.out.c0, HS6.out.c1⟩
                clear hHeld hK K
                have hHeld := hHeld2
                clear hHeld2
                (try simp only [Act.put, List.getElem_toArray, List.getElem_cons_succ, List.getElem_cons_zero, List.setIfInBounds_toArray, List.set_cons_zero, List.set_cons_succ])
                refine wpAnyH_take (i := 25) (v := (.bool false)) rfl (by kernel_rfl) (by kernel_rfl) (by kernel_rfl) (fun _ _ _ h => h) (Or.inl ⟨by rfl, fun w hSw => by (go_simp)⟩) hHeld ?_
                (try simp only [Act.put, List.getElem_toArray, List.getElem_cons_succ, List.getElem_cons_zero, List.setIfInBounds_toArray, List.set_cons_zero, List.set_cons_succ])
                refine wpAnyH_take (i := 26) (v := (.bool false)) rfl (by kernel_rfl) (by kernel_rfl) (by kernel_rfl) (fun _ _ _ h => h) (Or.inl ⟨by rfl, fun w hSw => by (go_simp)⟩) hHeld ?_
                (try simp only [Act.put, List.getElem_toArray, List.getElem_cons_succ, List.getElem_cons_zero, List.setIfInBounds_toArray, List.set_cons_zero, List.set_cons_succ])
                refine wpAnyH_take (i := 27) (v := (.bool false)) rfl (by kernel_rfl) (by kernel_rfl) (by kernel_rfl) (fun _ _ _ h => h) (Or.inl ⟨by rfl, fun w hSw => by (go_simp)⟩) hHeld ?_
                (try simp only [Act.put, List.getElem_toArray, List.getElem_cons_succ, List.getElem_cons_zero, List.setIfInBounds_toArray, List.set_cons_zero, List.set_cons_succ])
                refine wpAnyH_take (i := 28) (v := (.bool false)) rfl (by kernel_rfl) (by kernel_rfl) (by kernel_rfl) (fun _ _ _ h => h) (Or.inl ⟨by rfl, fun w hSw => by (go_simp)⟩) hHeld ?_
                (try simp only [Act.put, List.getElem_toArray, List.getElem_cons_succ, List.getElem_cons_zero, List.setIfInBounds_toArray, List.set_cons_zero, List.set_cons_succ])
                refine wpAnyH_take (i := 29) (v := (.bool true)) rfl (by kernel_rfl) (by kernel_rfl) (by kernel_rfl) (fun _ _ _ h => h) (Or.inl ⟨by rfl, fun w hSw => by (go_simp)⟩) hHeld ?_
                (try simp only [Act.put, List.getElem_toArray, List.getElem_cons_succ, List.getElem_cons_zero, List.setIfInBounds_toArray, List.set_cons_zero, List.set_cons_succ])
                refine wpAnyH_take (i := 30) (v := (.bool true)) rfl (by kernel_rfl) (by kernel_rfl) (by kernel_rfl) (fun _ _ _ h => h) (Or.inl ⟨by rfl, fun w hSw => by (go_simp)⟩) hHeld ?_
                (try simp only [Act.put, List.getElem_toArray, List.getElem_cons_succ, List.getElem_cons_zero, List.setIfInBounds_toArray, List.set_cons_zero, List.set_cons_succ])
                refine wpAnyH_take (i := 31) (v := (.pointer (some ⟨w13.heap.size, 0, none⟩))) rfl (by kernel_rfl) (by kernel_rfl) (by kernel_rfl) (fun _ _ _ h => h) (Or.inl ⟨by rfl, fun w hSw => by (go_simp)⟩) hHeld ?_
                (try simp only [Act.put, List.getElem_toArray, List.getElem_cons_succ, List.getElem_cons_zero, List.setIfInBounds_toArray, List.set_cons_zero, List.set_cons_succ])
                refine wpAnyH_take (i := 32) (v := (.int .i64 (j : Int))) rfl (by kernel_rfl) (by kernel_rfl) (by kernel_rfl) (fun _ _ _ h => h) (Or.inl ⟨by rfl, fun w hSw => by (obtain ⟨q0, q1, q2, q3⟩ := hSw; go_simp)⟩) hHeld ?_
                (try simp only [Act.put, List.getElem_toArray, List.getElem_cons_succ, List.getElem_cons_zero, List.setIfInBounds_toArray, List.set_cons_zero, List.set_cons_succ])
                refine wpAnyH_take (i := 33) (v := (.int .i64 ((j : Int) + 1))) rfl (by kernel_rfl) (by kernel_rfl) (by kernel_rfl) (fun _ _ _ h => h) (Or.inl ⟨by rfl, fun w hSw => by (go_simp)⟩) hHeld ?_
                (try simp only [Act.put, List.getElem_toArray, List.getElem_cons_succ, List.getElem_cons_zero, List.setIfInBounds_toArray, List.set_cons_zero, List.set_cons_succ])
                refine wpAnyH_take (i := 34) (v := (.bool false)) rfl (by kernel_rfl) (by kernel_rfl) (by kernel_rfl) (fun _ _ _ h => h) (Or.inl ⟨by rfl, fun w hSw => by (go_simp)⟩) hHeld ?_
                (try simp only [Act.put, List.getElem_toArray, List.getElem_cons_succ, List.getElem_cons_zero, List.setIfInBounds_toArray, List.set_cons_zero, List.set_cons_succ])
                refine wpAnyH_take (i := 35) (v := (.bool false)) rfl (by kernel_rfl) (by kernel_rfl) (by kernel_rfl) (fun _ _ _ h => h) (Or.inl ⟨by rfl, fun w hSw => by (go_simp)⟩) hHeld ?_
                (try simp only [Act.put, List.getElem_toArray, List.getElem_cons_succ, List.getElem_cons_zero, List.setIfInBounds_toArray, List.set_cons_zero, List.set_cons_succ])
                refine wpAnyH_take (i := 36) (v := (.bool false)) rfl (by kernel_rfl) (by kernel_rfl) (by kernel_rfl) (fun _ _ _ h => h) (Or.inl ⟨by rfl, fun w hSw => by (go_simp)⟩) hHeld ?_
                (try simp only [Act.put, List.getElem_toArray, List.getElem_cons_succ, List.getElem_cons_zero, List.setIfInBounds_toArray, List.set_cons_zero, List.set_cons_succ])
                refine wpAnyH_take (i := 37) (v := undef) rfl (by kernel_rfl) (by kernel_rfl) (by kernel_rfl) (fun _ _ _ h => h) (Or.inr ⟨by rfl, rfl⟩) hHeld ?_
                (try simp only [Act.put, List.getElem_toArray, List.getElem_cons_succ, List.getElem_cons_zero, List.setIfInBounds_toArray, List.set_cons_zero, List.set_cons_succ])
                refine wpAnyH_take (i := 38) (v := undef) rfl (by kernel_rfl) (by kernel_rfl) (by kernel_rfl) (fun _ _ _ h => h) (Or.inr ⟨by rfl, rfl⟩) hHeld ?_
                (try simp only [Act.put, List.getElem_toArray, List.getElem_cons_succ, List.getElem_cons_zero, List.setIfInBounds_toArray, List.set_cons_zero, List.set_cons_succ])
                refine wpAnyH_take (i := 39) (v := undef) rfl (by kernel_rfl) (by kernel_rfl) (by kernel_rfl) (fun _ _ _ h => h) (Or.inr ⟨by rfl, rfl⟩) hHeld ?_
                (try simp only [Act.put, List.getElem_toArray, List.getElem_cons_succ, List.getElem_cons_zero, List.setIfInBounds_toArray, List.set_cons_zero, List.set_cons_succ])
                refine wpAnyH_take (i := 40) (v := undef) rfl (by kernel_rfl) (by kernel_rfl) (by kernel_rfl) (fun _ _ _ h => h) (Or.inr ⟨by rfl, rfl⟩) hHeld ?_
                (try simp only [Act.put, List.getElem_toArray, List.getElem_cons_succ, List.getElem_cons_zero, List.setIfInBounds_toArray, List.set_cons_zero, List.set_cons_succ])
                refine wpAnyH_take (i := 41) (v := undef) rfl (by kernel_rfl) (by kernel_rfl) (by kernel_rfl) (fun _ _ _ h => h) (Or.inr ⟨by rfl, rfl⟩) hHeld ?_
                (try simp only [Act.put, List.getElem_toArray, List.getElem_cons_succ, List.getElem_cons_zero, List.setIfInBounds_toArray, List.set_cons_zero, List.set_cons_succ])
                refine wpAnyH_take (i := 42) (v := undef) rfl (by kernel_rfl) (by kernel_rfl) (by kernel_rfl) (fun _ _ _ h => h) (Or.inr ⟨by rfl, rfl⟩) hHeld ?_
                (try simp only [Act.put, List.getElem_toArray, List.getElem_cons_succ, List.getElem_cons_zero, List.setIfInBounds_toArray, List.set_cons_zero, List.set_cons_succ])
                refine wpAnyH_take (i := 43) (v := (.bool false)) rfl (by kernel_rfl) (by kernel_rfl) (by kernel_rfl) (fun _ _ _ h => h) (Or.inl ⟨by rfl, fun w hSw => by (go_simp)⟩) hHeld ?_
                (try simp only [Act.put, List.getElem_toArray, List.getElem_cons_succ, List.getElem_cons_zero, List.setIfInBounds_toArray, List.set_cons_zero, List.set_cons_succ])
                refine wpAnyH_take (i := 44) (v := (.bool false)) rfl (by kernel_rfl) (by kernel_rfl) (by kernel_rfl) (fun _ _ _ h => h) (Or.inl ⟨by rfl, fun w hSw => by (go_simp)⟩) hHeld ?_
                (try simp only [Act.put, List.getElem_toArray, List.getElem_cons_succ, List.getElem_cons_zero, List.setIfInBounds_toArray, List.set_cons_zero, List.set_cons_succ])
                refine wpAnyH_done (by kernel_rfl) ?_ _
                have c2 := HS6.out.c0
                have hs16 := HS6.out.lt
                go_wp2_with fail
                refine (made_calls ((j : Int) + 1) (rdK_one .i64 _ 4 _) (by decide)).mono ?_
                rintro r w17 ⟨u17, rfl, hO, hb⟩
                have HY := Lib.hid hO.rdK
                have hbb : Below w16.heap.size w16 w17 := ((Below.refl w16.heap.size w16).alloc (Nat.le_refl _) (.cells #[.int .i64 4] 3)).trans (hb.mono (by simp))
                have HQ9 : Hid (Below w1.heap.size w1 w17) := HQz.out.trans (hbb.mono HQz.out.size)
                have HD9 := Lib.hid (HDz.out.below hbb)
                obtain ⟨a17, c17, rfl⟩ := hO.len
                have hok9 : rootOk ((j : Int) + 1) [4] := ⟨⟨by omega, by omega⟩, by intro z hz; simp at hz; omega, by simp⟩
                have HOK9 := Lib.hid hok9
                have hs17 := HQ9.out.size
                clear hb hbb hO hok9
                go_wp2_with fail
                refine (save_ok HD9.out (by decide) (by decide) (by decide) rfl rfl (by omega) hs17 HY.out HOK9.out).mono ?_
                rintro r w18 ⟨rfl, pb18, hD, hp18, hk⟩
                have HFin := Lib.hid (HX.out _ (HQ9.out.trans (HD9.out.out hk hs17 (fun z hz => hz)))).2.2.2
                clear hD hk
                go_wp2_with fail
                go_ret
                exact ⟨rfl, HFin.out⟩
          · skip
            have HJ := Lib.hid hj2
            clear hj2
            subst hRj
            simp only at hV ⊢
            rw [decide_eq_true (show (0 : Int) < (j : Int) by omega)]
            obtain ⟨av, cv, rfl, _, _⟩ := hV.len
            have HA : Hid (RootAt we.heap.size (wf.alloc (.cells #[.int .i64 (j : Int), .slice av (listN l j).length cv] 48)) wf.heap.size (j : Int) (.slice av (listN l j).length cv) (listN l j)) := RootAt.new _ hV (fun g hg => Nat.le_of_lt (HOW.out g hg)) hs7
            obtain ⟨wy, hwy⟩ : ∃ wy, wy = wf.alloc (.cells #[.int .i64 (j : Int), .slice av (listN l j).length cv] 48) := ⟨_, rfl⟩
            rw [← hwy] at HA
            have hby : Below wf.heap.size wf wy := by rw [hwy]; (repeat (first | exact Below.refl _ _ | assumption | refine Below.drew ?_ | refine below_many ?_ _ | refine Below.alloc ?_ (by first | (simp; done) | (simp; omega) | omega) _ | refine Below.setCell ?_ (by first | (simp; done) | (simp; omega) | omega) _))
            replace HQ : Hid (Below w1.heap.size w1 wy) := HQ.out.trans (hby.mono HQ.out.size)
            replace HD := Lib.hid (HD.out.below hby)
            have HWY := Lib.hid hwy
            clear hby hwy hV HOW
            go_wp2_with fail
            rw [← HWY.out]
            refine (is_ev (HE.out.below (HX.out _ HQ.out).2.2.2) (k := 8) (by decide) 109).mono ?_
            rintro r w8 ⟨rfl, hb⟩
            rw [show ((101 + ((8 : Nat) : Int)) == 109) = true from rfl]
            replace HA := Lib.hid (HA.out.below hb)
            replace HQ : Hid (Below w1.heap.size w1 w8) := HQ.out.trans (hb.mono HQ.out.size)
            replace HD := Lib.hid (HD.out.below hb)
            clear hb HWY
            have c0 := HA.out.c0
            have c1 := HA.out.c1
            have hrl := HA.out.lt
            have hj3 : (j : Int) = (k : Int) := by have := HJ.out; omega
            have hq1 : ((j : Int) != (k : Int) + 1) = true := by simp; omega
            have hq0 : ((j : Int) != (k : Int)) = false := by simp [hj3]
            clear hj3
            go_wp2_with fail
            have hb8 : Below w8.heap.size w8 w8.drew := (Below.refl _ _).drew
            have HAd := Lib.hid (HA.out.below hb8)
            have HQd : Hid (Below w1.heap.size w1 w8.drew) := HQ.out.trans (hb8.mono HQ.out.size)
            have HDd := Lib.hid (HD.out.below hb8)
            have HKa : w8.drew.cell? ⟨wf.heap.size, 0, none⟩ = some (.int .i64 (j : Int)) ∧ w8.drew.cell? ⟨wf.heap.size, 1, none⟩ = some (.slice av (listN l j).length cv) := ⟨HAd.out.c0, HAd.out.c1⟩
            obtain ⟨z2, hzl, _, _⟩ := HX.out _ HQd.out
            have HZL := Lib.hid hzl
            have hwlt : w.heap.size < w8.drew.heap.size := by have := HQd.out.size; omega
            have HN3 := Lib.hid (listN_len l j)
            clear c0 c1 hzl hb8
            go_region_held3 (fun wq => wq.cell? ⟨wf.heap.size, 0, none⟩ = some (.int .i64 (j : Int)) ∧ wq.cell? ⟨wf.heap.size, 1, none⟩ = some (.slice av (listN l j).length cv))
              (first | exact HKd | exact HKc | exact HKb | exact HKa)
              (first
                | (go_at_call 38; go_loud (refine (list_calls z2 HZL.out j (by omega) hwlt).mono ?_); rintro r wg ⟨u, rfl, hR, hb⟩; have HAe := Lib.hid (HAd.out.below hb); have HQe : Hid (Below w1.heap.size w1 wg) := HQd.out.trans (hb.mono HQd.out.size); have HDe := Lib.hid (HDd.out.below hb); have HKb := And.intro HAe.out.c0 HAe.out.c1; obtain ⟨ag, cg, hvg, _, _⟩ := hR.len; subst hvg; have HR := Lib.hid hR; clear hR hb)
                | (go_at_call 32; refine (made_calls (j : Int) HR.out (by have := HN3.out; omega)).mono ?_; rintro r wh ⟨u13, rfl, hO, hb⟩; have HAf := Lib.hid (HAe.out.below hb); have HQf : Hid (Below w1.heap.size w1 wh) := HQe.out.trans (hb.mono HQe.out.size); have HDf := Lib.hid (HDe.out.below hb); have HKc := And.intro HAf.out.c0 HAf.out.c1; have HU := Lib.hid hO.rdK; obtain ⟨a13, c13, rfl⟩ := hO.len; clear hO hb)
                | (go_at_call 35; refine (same_calls (j : Int) (j : Int) HAf.out.rd HU.out).mono ?_; rintro r wi ⟨rfl, hb⟩; have HAg := Lib.hid (HAf.out.below hb); have HQg : Hid (Below w1.heap.size w1 wi) := HQf.out.trans (hb.mono HQf.out.size); have HDg := Lib.hid (HDf.out.below hb); have HKd := And.intro HAg.out.c0 HAg.out.c1; rw [show decide ((j : Int) = (j : Int) ∧ listN l j = listN l j) = true by simp]; clear hb))
            all_goals
              clear HA HQ HD HAd HQd HDd HAe HQe HDe HAf HQf HDf HR HU HZL z2 HKa HKb HKc hwlt hrl hs3 hs4 hs6
              have hsg := HAg.out.lt
              obtain ⟨c0, c1⟩ := HKd
              go_wp2_with fail
              refine (da_arm HDg.out 2).mono ?_
              rintro r w9 ⟨rfl, hD, hk⟩
              rw [if_neg (by decide)] at hD
              have HA := Lib.hid (HAg.out.keep hk (fun x hx => by rw [hx]; exact hd6.1))
              have HQ : Hid (Below w1.heap.size w1 w9) := HQg.out.trans (HDg.out.out hk HQg.out.size (fun z hz => .inl hz))
              have HD := Lib.hid hD
              clear HAg HQg HDg hD hk c0 c1 hsg
              go_wp2_with fail
              refine (made_calls ((j : Int) + 1) (rdK_three w9 1 2 3 _) (by decide)).mono ?_
              rintro r w10 ⟨u3, rfl, hO, hb⟩
              have HY := Lib.hid hO.rdK
              have hbb : Below w9.heap.size w9 w10 := ((Below.refl w9.heap.size w9).alloc (Nat.le_refl _) (.cells #[.int .i64 1, .int .i64 2, .int .i64 3] 3)).trans (hb.mono (by simp))
              replace HA := Lib.hid (HA.out.below hbb)
              replace HQ : Hid (Below w1.heap.size w1 w10) := HQ.out.trans (hbb.mono HQ.out.size)
              replace HD := Lib.hid (HD.out.below hbb)
              obtain ⟨a3, c3, rfl⟩ := hO.len
              have hokn : rootOk ((j : Int) + 1) [1, 2, 3] := ⟨⟨by omega, by omega⟩, by intro z hz; simp at hz; omega, by simp⟩
              have HOKN := Lib.hid hokn
              have hs10 := HQ.out.size
              clear hb hbb hO hokn
              go_wp2_with fail
              refine (save_gone2 (HE.out.below (HX.out _ HQ.out).2.2.2) (by decide) (Nat.le_of_lt hx1) HD.out (by decide) (by decide) (by decide) rfl rfl (by omega) hs10 HY.out HOKN.out).mono ?_
              rintro r w11 ⟨rfl, hD, hk⟩
              replace HA := Lib.hid (HA.out.keep hk (fun x hx => by rcases hx with rfl | rfl | rfl <;> omega))
              replace HQ : Hid (Below w1.heap.size w1 w11) := HQ.out.trans (HD.out.out hk hs10 (fun z hz => hz))
              replace HD := Lib.hid hD
              obtain ⟨_, _, hq2, _⟩ := HX.out _ HQ.out
              have HQ2 := Lib.hid hq2
              have hs11 := HQ.out.size
              clear hD hk hq2 HY
              go_wp2_with fail
              refine (da_crash HD.out (by decide) hs11 HQ2.out HQB.out).mono ?_
              rintro r w12 ⟨rfl, pb9, hD, hp9, hk⟩
              replace hD : DA w1.heap.size w12 (w1.heap.size + 2) w1.heap.size pb9 6 (tornF g ((j : Int) + 1) (rootL ((j : Int) + 1) [1, 2, 3]) qs) [] (calls7 + 1) 0 false := hD
              replace HA := Lib.hid (HA.out.keep hk (fun x hx => by rcases hx with rfl | rfl <;> omega))
              replace HQ : Hid (Below w1.heap.size w1 w12) := HQ.out.trans (HD.out.out hk hs11 (fun z hz => hz.elim .inl (fun h => .inr (.inl h))))
              replace HD := Lib.hid hD
              clear hD hk HQ2
              go_wp2_with fail
              refine (load_own (HE.out.below (HX.out _ HQ.out).2.2.2) (by decide) (by decide) HD.out (by decide) (by decide) (fun i => by rw [rdS_nil']; exact tornF_bytes HBY.out (rootL_bytes _ _ (by decide)) i)).mono ?_
              rintro r w13 ⟨hb, v14, rfl, hV, hown⟩
              rw [rdS_nil'] at hV ⊢
              replace HA := Lib.hid (HA.out.below hb)
              replace HQ : Hid (Below w1.heap.size w1 w13) := HQ.out.trans (hb.mono HQ.out.size)
              replace HD := Lib.hid (HD.out.below hb)
              have hs13 := HA.out.lt
              have c0 := HA.out.c0
              have c1 := HA.out.c1
              have HST2 := Lib.hid (stage2 (listN_all l) k hk20 qs HS.out)
              clear hb hown
              rcases HST2.out with hs | hs
              · simp only at hs
                rw [hs] at hV ⊢
                rw [decide_eq_true (show (0 : Int) < (j : Int) + 1 by omega)]
                simp only at hV ⊢
                obtain ⟨a4, c4, rfl, _, _⟩ := hV.len
                obtain ⟨wz, hwz⟩ : ∃ wz, wz = w13.alloc (.cells #[.int .i64 ((j : Int) + 1), .slice a4 3 c4] 48) := ⟨_, rfl⟩
                have HS4 : Hid (RootAt 0 wz w13.heap.size ((j : Int) + 1) (.slice a4 3 c4) ([1, 2, 3])) := by rw [hwz]; exact RootAt.new _ hV (fun _ _ => Nat.zero_le _) (Nat.zero_le _)
                have hbz : Below w13.heap.size w13 wz.drew := by rw [hwz]; exact ((Below.refl _ _).alloc (Nat.le_refl _) _).drew
                have hbz2 : Below wz.heap.size wz wz.drew := (Below.refl _ _).drew
                have HA4 := Lib.hid (HA.out.below hbz)
                have HQ4 : Hid (Below w1.heap.size w1 wz.drew) := HQ.out.trans (hbz.mono HQ.out.size)
                have HD4 := Lib.hid (HD.out.below hbz)
                replace HS4 := Lib.hid (HS4.out.below hbz2)
                have HWZ := Lib.hid hwz
                clear hbz hbz2 hwz hV hs c0 c1
                go_wp2_with fail
                rw [← HWZ.out]
                have HKa := And.intro HA4.out.c0 (And.intro HA4.out.c1 (And.intro HS4.out.c0 HS4.out.c1))
                have hwr : IntKind.i64.wrap (((j : Int) + 1) + 1) = ((j : Int) + 1) + 1 := IntWalk.i64_in _ (by omega)
                refine wp_region_held_drew (S := (fun wq => wq.cell? ⟨wf.heap.size, 0, none⟩ = some (.int .i64 (j : Int)) ∧ wq.cell? ⟨wf.heap.size, 1, none⟩ = some (.slice av (listN l j).length cv) ∧ wq.cell? ⟨w13.heap.size, 0, none⟩ = some (.int .i64 ((j : Int) + 1)) ∧ wq.cell? ⟨w13.heap.size, 1, none⟩ = some (.slice a4 3 c4))) (by kernel_rfl) HKa (fun hHeld => ?_)
                refine wpAnyH_take (i := 0) (v := (.nilIface)) rfl (by kernel_rfl) (by kernel_rfl) (by kernel_rfl) (fun _ _ _ h => h) (Or.inl ⟨by rfl, fun w hSw => by (go_simp)⟩) hHeld ?_
                (try simp only [Act.put, List.getElem_toArray, List.getElem_cons_succ, List.getElem_cons_zero, List.setIfInBounds_toArray, List.set_cons_zero, List.set_cons_succ])
                refine wpAnyH_take (i := 1) (v := (.bool false)) rfl (by kernel_rfl) (by kernel_rfl) (by kernel_rfl) (fun _ _ _ h => h) (Or.inl ⟨by rfl, fun w hSw => by (go_simp)⟩) hHeld ?_
                (try simp only [Act.put, List.getElem_toArray, List.getElem_cons_succ, List.getElem_cons_zero, List.setIfInBounds_toArray, List.set_cons_zero, List.set_cons_succ])
                refine wpAnyH_take (i := 2) (v := (.bool false)) rfl (by kernel_rfl) (by kernel_rfl) (by kernel_rfl) (fun _ _ _ h => h) (Or.inl ⟨by rfl, fun w hSw => by (go_simp)⟩) hHeld ?_
                (try simp only [Act.put, List.getElem_toArray, List.getElem_cons_succ, List.getElem_cons_zero, List.setIfInBounds_toArray, List.set_cons_zero, List.set_cons_succ])
                refine wpAnyH_take (i := 3) (v := (.bool true)) rfl (by kernel_rfl) (by kernel_rfl) (by kernel_rfl) (fun _ _ _ h => h) (Or.inl ⟨by rfl, fun w hSw => by (go_simp)⟩) hHeld ?_
                (try simp only [Act.put, List.getElem_toArray, List.getElem_cons_succ, List.getElem_cons_zero, List.setIfInBounds_toArray, List.set_cons_zero, List.set_cons_succ])
                refine wpAnyH_take (i := 4) (v := (.bool true)) rfl (by kernel_rfl) (by kernel_rfl) (by kernel_rfl) (fun _ _ _ h => h) (Or.inl ⟨by rfl, fun w hSw => by (go_simp)⟩) hHeld ?_
                (try simp only [Act.put, List.getElem_toArray, List.getElem_cons_succ, List.getElem_cons_zero, List.setIfInBounds_toArray, List.set_cons_zero, List.set_cons_succ])
                refine wpAnyH_take (i := 5) (v := (.bool true)) rfl (by kernel_rfl) (by kernel_rfl) (by kernel_rfl) (fun _ _ _ h => h) (Or.inl ⟨by rfl, fun w hSw => by (go_simp)⟩) hHeld ?_
                (try simp only [Act.put, List.getElem_toArray, List.getElem_cons_succ, List.getElem_cons_zero, List.setIfInBounds_toArray, List.set_cons_zero, List.set_cons_succ])
                refine wpAnyH_take (i := 6) (v := undef) rfl (by kernel_rfl) (by kernel_rfl) (by kernel_rfl) (fun _ _ _ h => h) (Or.inr ⟨by rfl, rfl⟩) hHeld ?_
                (try simp only [Act.put, List.getElem_toArray, List.getElem_cons_succ, List.getElem_cons_zero, List.setIfInBounds_toArray, List.set_cons_zero, List.set_cons_succ])
                refine wpAnyH_take (i := 7) (v := undef) rfl (by kernel_rfl) (by kernel_rfl) (by kernel_rfl) (fun _ _ _ h => h) (Or.inr ⟨by rfl, rfl⟩) hHeld ?_
                (try simp only [Act.put, List.getElem_toArray, List.getElem_cons_succ, List.getElem_cons_zero, List.setIfInBounds_toArray, List.set_cons_zero, List.set_cons_succ])
                refine wpAnyH_take (i := 8) (v := undef) rfl (by kernel_rfl) (by kernel_rfl) (by kernel_rfl) (fun _ _ _ h => h) (Or.inr ⟨by rfl, rfl⟩) hHeld ?_
                (try simp only [Act.put, List.getElem_toArray, List.getElem_cons_succ, List.getElem_cons_zero, List.setIfInBounds_toArray, List.set_cons_zero, List.set_cons_succ])
                refine wpAnyH_take (i := 9) (v := undef) rfl (by kernel_rfl) (by kernel_rfl) (by kernel_rfl) (fun _ _ _ h => h) (Or.inr ⟨by rfl, rfl⟩) hHeld ?_
                (try simp only [Act.put, List.getElem_toArray, List.getElem_cons_succ, List.getElem_cons_zero, List.setIfInBounds_toArray, List.set_cons_zero, List.set_cons_succ])
                refine wpAnyH_take (i := 10) (v := (.bool true)) rfl (by kernel_rfl) (by kernel_rfl) (by kernel_rfl) (fun _ _ _ h => h) (Or.inl ⟨by rfl, fun w hSw => by (go_simp)⟩) hHeld ?_
                (try simp only [Act.put, List.getElem_toArray, List.getElem_cons_succ, List.getElem_cons_zero, List.setIfInBounds_toArray, List.set_cons_zero, List.set_cons_succ])
                refine wpAnyH_take (i := 11) (v := (.bool false)) rfl (by kernel_rfl) (by kernel_rfl) (by kernel_rfl) (fun _ _ _ h => h) (Or.inl ⟨by rfl, fun w hSw => by (go_simp)⟩) hHeld ?_
                (try simp only [Act.put, List.getElem_toArray, List.getElem_cons_succ, List.getElem_cons_zero, List.setIfInBounds_toArray, List.set_cons_zero, List.set_cons_succ])
                refine wpAnyH_take (i := 12) (v := (.bool false)) rfl (by kernel_rfl) (by kernel_rfl) (by kernel_rfl) (fun _ _ _ h => h) (Or.inl ⟨by rfl, fun w hSw => by (go_simp)⟩) hHeld ?_
                (try simp only [Act.put, List.getElem_toArray, List.getElem_cons_succ, List.getElem_cons_zero, List.setIfInBounds_toArray, List.set_cons_zero, List.set_cons_succ])
                refine wpAnyH_take (i := 13) (v := (.bool false)) rfl (by kernel_rfl) (by kernel_rfl) (by kernel_rfl) (fun _ _ _ h => h) (Or.inl ⟨by rfl, fun w hSw => by (go_simp)⟩) hHeld ?_
                (try simp only [Act.put, List.getElem_toArray, List.getElem_cons_succ, List.getElem_cons_zero, List.setIfInBounds_toArray, List.set_cons_zero, List.set_cons_succ])
                refine wpAnyH_take (i := 14) (v := (.bool true)) rfl (by kernel_rfl) (by kernel_rfl) (by kernel_rfl) (fun _ _ _ h => h) (Or.inl ⟨by rfl, fun w hSw => by (go_simp)⟩) hHeld ?_
                (try simp only [Act.put, List.getElem_toArray, List.getElem_cons_succ, List.getElem_cons_zero, List.setIfInBounds_toArray, List.set_cons_zero, List.set_cons_succ])
                refine wpAnyH_take (i := 15) (v := (.bool true)) rfl (by kernel_rfl) (by kernel_rfl) (by kernel_rfl) (fun _ _ _ h => h) (Or.inl ⟨by rfl, fun w hSw => by (go_simp)⟩) hHeld ?_
                (try simp only [Act.put, List.getElem_toArray, List.getElem_cons_succ, List.getElem_cons_zero, List.setIfInBounds_toArray, List.set_cons_zero, List.set_cons_succ])
                refine wpAnyH_take (i := 16) (v := (.pointer (some ⟨w13.heap.size, 0, none⟩))) rfl (by kernel_rfl) (by kernel_rfl) (by kernel_rfl) (fun _ _ _ h => h) (Or.inl ⟨by rfl, fun w hSw => by (go_simp)⟩) hHeld ?_
                (try simp only [Act.put, List.getElem_toArray, List.getElem_cons_succ, List.getElem_cons_zero, List.setIfInBounds_toArray, List.set_cons_zero, List.set_cons_succ])
                refine wpAnyH_take (i := 17) (v := (.int .i64 ((j : Int) + 1))) rfl (by kernel_rfl) (by kernel_rfl) (by kernel_rfl) (fun _ _ _ h => h) (Or.inl ⟨by rfl, fun w hSw => by (obtain ⟨q0, q1, q2, q3⟩ := hSw; go_simp)⟩) hHeld ?_
                (try simp only [Act.put, List.getElem_toArray, List.getElem_cons_succ, List.getElem_cons_zero, List.setIfInBounds_toArray, List.set_cons_zero, List.set_cons_succ])
                refine wpAnyH_take (i := 18) (v := (.int .i64 ((j : Int) + 1))) rfl (by kernel_rfl) (by kernel_rfl) (by kernel_rfl) (fun _ _ _ h => h) (Or.inl ⟨by rfl, fun w hSw => by (go_simp)⟩) hHeld ?_
                (try simp only [Act.put, List.getElem_toArray, List.getElem_cons_succ, List.getElem_cons_zero, List.setIfInBounds_toArray, List.set_cons_zero, List.set_cons_succ])
                refine wpAnyH_take (i := 19) (v := (.bool false)) rfl (by kernel_rfl) (by kernel_rfl) (by kernel_rfl) (fun _ _ _ h => h) (Or.inl ⟨by rfl, fun w hSw => by (go_simp)⟩) hHeld ?_
                (try simp only [Act.put, List.getElem_toArray, List.getElem_cons_succ, List.getElem_cons_zero, List.setIfInBounds_toArray, List.set_cons_zero, List.set_cons_succ])
                refine wpAnyH_take (i := 20) (v := (.bool false)) rfl (by kernel_rfl) (by kernel_rfl) (by kernel_rfl) (fun _ _ _ h => h) (Or.inl ⟨by rfl, fun w hSw => by (go_simp)⟩) hHeld ?_
                (try simp only [Act.put, List.getElem_toArray, List.getElem_cons_succ, List.getElem_cons_zero, List.setIfInBounds_toArray, List.set_cons_zero, List.set_cons_succ])
                refine wpAnyH_take (i := 21) (v := (.bool false)) rfl (by kernel_rfl) (by kernel_rfl) (by kernel_rfl) (fun _ _ _ h => h) (Or.inl ⟨by rfl, fun w hSw => by (go_simp)⟩) hHeld ?_
                (try simp only [Act.put, List.getElem_toArray, List.getElem_cons_succ, List.getElem_cons_zero, List.setIfInBounds_toArray, List.set_cons_zero, List.set_cons_succ])
                refine wpAnyH_take (i := 22) (v := undef) rfl (by kernel_rfl) (by kernel_rfl) (by kernel_rfl) (fun _ _ _ h => h) (Or.inr ⟨by rfl, rfl⟩) hHeld ?_
                (try simp only [Act.put, List.getElem_toArray, List.getElem_cons_succ, List.getElem_cons_zero, List.setIfInBounds_toArray, List.set_cons_zero, List.set_cons_succ])
                refine wpAnyH_take (i := 23) (v := undef) rfl (by kernel_rfl) (by kernel_rfl) (by kernel_rfl) (fun _ _ _ h => h) (Or.inr ⟨by rfl, rfl⟩) hHeld ?_
                (try simp only [Act.put, List.getElem_toArray, List.getElem_cons_succ, List.getElem_cons_zero, List.setIfInBounds_toArray, List.set_cons_zero, List.set_cons_succ])
                refine wpAnyH_take (i := 24) (v := undef) rfl (by kernel_rfl) (by kernel_rfl) (by kernel_rfl) (fun _ _ _ h => h) (Or.inr ⟨by rfl, rfl⟩) hHeld ?_
                (try simp only [Act.put, List.getElem_toArray, List.getElem_cons_succ, List.getElem_cons_zero, List.setIfInBounds_toArray, List.set_cons_zero, List.set_cons_succ])
                refine wpAnyH_take (i := 25) (v := undef) rfl (by kernel_rfl) (by kernel_rfl) (by kernel_rfl) (fun _ _ _ h => h) (Or.inr ⟨by rfl, rfl⟩) hHeld ?_
                (try simp only [Act.put, List.getElem_toArray, List.getElem_cons_succ, List.getElem_cons_zero, List.setIfInBounds_toArray, List.set_cons_zero, List.set_cons_succ])
                refine wpAnyH_take (i := 26) (v := (.bool false)) rfl (by kernel_rfl) (by kernel_rfl) (by kernel_rfl) (fun _ _ _ h => h) (Or.inl ⟨by rfl, fun w hSw => by (go_simp)⟩) hHeld ?_
                (try simp only [Act.put, List.getElem_toArray, List.getElem_cons_succ, List.getElem_cons_zero, List.setIfInBounds_toArray, List.set_cons_zero, List.set_cons_succ])
                refine wpAnyH_take (i := 27) (v := (.bool false)) rfl (by kernel_rfl) (by kernel_rfl) (by kernel_rfl) (fun _ _ _ h => h) (Or.inl ⟨by rfl, fun w hSw => by (go_simp)⟩) hHeld ?_
                (try simp only [Act.put, List.getElem_toArray, List.getElem_cons_succ, List.getElem_cons_zero, List.setIfInBounds_toArray, List.set_cons_zero, List.set_cons_succ])
                refine wpAnyH_take (i := 28) (v := (.bool false)) rfl (by kernel_rfl) (by kernel_rfl) (by kernel_rfl) (fun _ _ _ h => h) (Or.inl ⟨by rfl, fun w hSw => by (go_simp)⟩) hHeld ?_
                (try simp only [Act.put, List.getElem_toArray, List.getElem_cons_succ, List.getElem_cons_zero, List.setIfInBounds_toArray, List.set_cons_zero, List.set_cons_succ])
                refine wpAnyH_take (i := 29) (v := (.bool true)) rfl (by kernel_rfl) (by kernel_rfl) (by kernel_rfl) (fun _ _ _ h => h) (Or.inl ⟨by rfl, fun w hSw => by (go_simp)⟩) hHeld ?_
                (try simp only [Act.put, List.getElem_toArray, List.getElem_cons_succ, List.getElem_cons_zero, List.setIfInBounds_toArray, List.set_cons_zero, List.set_cons_succ])
                refine wpAnyH_take (i := 30) (v := (.bool true)) rfl (by kernel_rfl) (by kernel_rfl) (by kernel_rfl) (fun _ _ _ h => h) (Or.inl ⟨by rfl, fun w hSw => by (go_simp)⟩) hHeld ?_
                (try simp only [Act.put, List.getElem_toArray, List.getElem_cons_succ, List.getElem_cons_zero, List.setIfInBounds_toArray, List.set_cons_zero, List.set_cons_succ])
                refine wpAnyH_take (i := 31) (v := (.pointer (some ⟨w13.heap.size, 0, none⟩))) rfl (by kernel_rfl) (by kernel_rfl) (by kernel_rfl) (fun _ _ _ h => h) (Or.inl ⟨by rfl, fun w hSw => by (go_simp)⟩) hHeld ?_
                (try simp only [Act.put, List.getElem_toArray, List.getElem_cons_succ, List.getElem_cons_zero, List.setIfInBounds_toArray, List.set_cons_zero, List.set_cons_succ])
                refine wpAnyH_take (i := 32) (v := (.int .i64 ((j : Int) + 1))) rfl (by kernel_rfl) (by kernel_rfl) (by kernel_rfl) (fun _ _ _ h => h) (Or.inl ⟨by rfl, fun w hSw => by (obtain ⟨q0, q1, q2, q3⟩ := hSw; go_simp)⟩) hHeld ?_
                (try simp only [Act.put, List.getElem_toArray, List.getElem_cons_succ, List.getElem_cons_zero, List.setIfInBounds_toArray, List.set_cons_zero, List.set_cons_succ])
                refine wpAnyH_take (i := 33) (v := (.int .i64 ((j : Int) + 1))) rfl (by kernel_rfl) (by kernel_rfl) (by kernel_rfl) (fun _ _ _ h => h) (Or.inl ⟨by rfl, fun w hSw => by (go_simp)⟩) hHeld ?_
                (try simp only [Act.put, List.getElem_toArray, List.getElem_cons_succ, List.getElem_cons_zero, List.setIfInBounds_toArray, List.set_cons_zero, List.set_cons_succ])
                refine wpAnyH_take (i := 34) (v := (.bool true)) rfl (by kernel_rfl) (by kernel_rfl) (by kernel_rfl) (fun _ _ _ h => h) (Or.inl ⟨by rfl, fun w hSw => by (go_simp)⟩) hHeld ?_
                (try simp only [Act.put, List.getElem_toArray, List.getElem_cons_succ, List.getElem_cons_zero, List.setIfInBounds_toArray, List.set_cons_zero, List.set_cons_succ])
                refine wpAnyH_take (i := 35) (v := (.bool true)) rfl (by kernel_rfl) (by kernel_rfl) (by kernel_rfl) (fun _ _ _ h => h) (Or.inl ⟨by rfl, fun w hSw => by (go_simp)⟩) hHeld ?_
                (try simp only [Act.put, List.getElem_toArray, List.getElem_cons_succ, List.getElem_cons_zero, List.setIfInBounds_toArray, List.set_cons_zero, List.set_cons_succ])
                refine wpAnyH_take (i := 36) (v := (.bool true)) rfl (by kernel_rfl) (by kernel_rfl) (by kernel_rfl) (fun _ _ _ h => h) (Or.inl ⟨by rfl, fun w hSw => by (go_simp)⟩) hHeld ?_
                (try simp only [Act.put, List.getElem_toArray, List.getElem_cons_succ, List.getElem_cons_zero, List.setIfInBounds_toArray, List.set_cons_zero, List.set_cons_succ])
                refine wpAnyH_take (i := 37) (v := (rootV ((j : Int) + 1) (.slice a4 3 c4))) rfl (by kernel_rfl) (by kernel_rfl) (by kernel_rfl) (fun _ _ _ h => h) (Or.inl ⟨by rfl, fun w hSw => by (obtain ⟨q0, q1, q2, q3⟩ := hSw; go_simp)⟩) hHeld ?_
                (try simp only [Act.put, List.getElem_toArray, List.getElem_cons_succ, List.getElem_cons_zero, List.setIfInBounds_toArray, List.set_cons_zero, List.set_cons_succ])
                refine wpAnyH_take (i := 38) (v := (.int .i64 ((j : Int) + 1))) rfl (by kernel_rfl) (by kernel_rfl) (by kernel_rfl) (fun _ _ _ h => h) (Or.inl ⟨by rfl, fun w hSw => by (go_simp)⟩) hHeld ?_
                (try simp only [Act.put, List.getElem_toArray, List.getElem_cons_succ, List.getElem_cons_zero, List.setIfInBounds_toArray, List.set_cons_zero, List.set_cons_succ])
                refine wpAnyH_ready (rs := [39]) (by kernel_rfl) (by simp) ?_
                refine AllReadyH.cons rfl (fun K hK => ?_) AllReadyH.nil
                go_simp
                go_wp2_with (fail)
                refine hK.out _ _ ?_ (fun hHeld2 => ?_)
                · exact (show _ from ⟨(HA4.out.below ((Below.refl _ _).alloc (Nat.le_refl _) _)).c0, (HA4.out.below ((Below.refl _ _).alloc (Nat.le_refl _) _)).c1, (HS4.out.below ((Below.refl _ _).alloc (Nat.le_refl _) _)).c0, (HS4.out.below ((Below.refl _ _).alloc (Nat.le_refl _) _)).c1⟩)
                clear hHeld hK K
                have hHeld := hHeld2
                clear hHeld2
                (try simp only [Act.put, List.getElem_toArray, List.getElem_cons_succ, List.getElem_cons_zero, List.setIfInBounds_toArray, List.set_cons_zero, List.set_cons_succ])
                refine wpAnyH_ready (rs := [40]) (by kernel_rfl) (by simp) ?_
                refine AllReadyH.cons rfl (fun K hK => ?_) AllReadyH.nil
                go_simp
                go_wp2_with (go_at_call 32; go_loud (refine (made_calls ((j : Int) + 1) ((rdK_three wz 1 2 3 _).below (Below.refl _ _).drew) (by decide)).mono ?_); go_loud (rintro r w15 ⟨u15, rfl, hO, hb⟩); go_loud (have hbb : Below wz.drew.heap.size wz.drew w15 := (show Below wz.drew.heap.size wz.drew ((wz.alloc (.cells #[.int .i64 1, .int .i64 2, .int .i64 3] 3)).drew) from (Below.refl wz.drew.heap.size wz.drew).alloc (Nat.le_refl _) (.cells #[.int .i64 1, .int .i64 2, .int .i64 3] 3)).trans (hb.mono (show wz.heap.size ≤ (wz.alloc (.cells #[.int .i64 1, .int .i64 2, .int .i64 3] 3)).heap.size by simp))); have HA5 := Lib.hid (HA4.out.below hbb); have HS5 := Lib.hid (HS4.out.below hbb); have HQ5 : Hid (Below w1.heap.size w1 w15) := HQ4.out.trans (hbb.mono HQ4.out.size); have HD5 := Lib.hid (HD4.out.below hbb); have HU := Lib.hid hO.rdK; obtain ⟨a15, c15, rfl⟩ := hO.len; clear hO hb hbb)
                refine hK.out _ _ ?_ (fun hHeld2 => ?_)
                · exact ⟨HA5.out.c0, HA5.out.c1, HS5.out.c0, HS5.out.c1⟩
                clear hHeld hK K
                have hHeld := hHeld2
                clear hHeld2
                (try simp only [Act.put, List.getElem_toArray, List.getElem_cons_succ, List.getElem_cons_zero, List.setIfInBounds_toArray, List.set_cons_zero, List.set_cons_succ])
                refine wpAnyH_ready (rs := [41]) (by kernel_rfl) (by simp) ?_
                refine AllReadyH.cons rfl (fun K hK => ?_) AllReadyH.nil
                go_simp
                go_wp2_with (go_at_call 35; refine (same_calls ((j : Int) + 1) ((j : Int) + 1) HS5.out.rd HU.out).mono ?_; rintro r w16 ⟨rfl, hb⟩; have HA6 := Lib.hid (HA5.out.below hb); have HS6 := Lib.hid (HS5.out.below hb); have HQz : Hid (Below w1.heap.size w1 w16) := HQ5.out.trans (hb.mono HQ5.out.size); have HDz := Lib.hid (HD5.out.below hb); rw [show decide (((j : Int) + 1) = ((j : Int) + 1) ∧ ([1, 2, 3] : List Int) = [1, 2, 3]) = true by simp]; clear hb)
                refine hK.out _ _ ?_ (fun hHeld2 => ?_)
                · exact ⟨HA6.out.c0, HA6.out.c1, HS6.out.c0, HS6.out.c1⟩
                clear hHeld hK K
                have hHeld := hHeld2
                clear hHeld2
                (try simp only [Act.put, List.getElem_toArray, List.getElem_cons_succ, List.getElem_cons_zero, List.setIfInBounds_toArray, List.set_cons_zero, List.set_cons_succ])
                refine wpAnyH_take (i := 42) (v := (.bool false)) rfl (by kernel_rfl) (by kernel_rfl) (by kernel_rfl) (fun _ _ _ h => h) (Or.inl ⟨by rfl, fun w hSw => by (go_simp)⟩) hHeld ?_
                (try simp only [Act.put, List.getElem_toArray, List.getElem_cons_succ, List.getElem_cons_zero, List.setIfInBounds_toArray, List.set_cons_zero, List.set_cons_succ])
                refine wpAnyH_take (i := 43) (v := (.bool false)) rfl (by kernel_rfl) (by kernel_rfl) (by kernel_rfl) (fun _ _ _ h => h) (Or.inl ⟨by rfl, fun w hSw => by (go_simp)⟩) hHeld ?_
                (try simp only [Act.put, List.getElem_toArray, List.getElem_cons_succ, List.getElem_cons_zero, List.setIfInBounds_toArray, List.set_cons_zero, List.set_cons_succ])
                refine wpAnyH_take (i := 44) (v := (.bool false)) rfl (by kernel_rfl) (by kernel_rfl) (by kernel_rfl) (fun _ _ _ h => h) (Or.inl ⟨by rfl, fun w hSw => by (go_simp)⟩) hHeld ?_
                (try simp only [Act.put, List.getElem_toArray, List.getElem_cons_succ, List.getElem_cons_zero, List.setIfInBounds_toArray, List.set_cons_zero, List.set_cons_succ])
                refine wpAnyH_done (by kernel_rfl) ?_ _
                have c2 := HS6.out.c0
                have hs16 := HS6.out.lt
                go_wp2_with fail
                refine (made_calls (((j : Int) + 1) + 1) (rdK_one .i64 _ 4 _) (by decide)).mono ?_
                rintro r w17 ⟨u17, rfl, hO, hb⟩
                have HY := Lib.hid hO.rdK
                have hbb : Below w16.heap.size w16 w17 := ((Below.refl w16.heap.size w16).alloc (Nat.le_refl _) (.cells #[.int .i64 4] 3)).trans (hb.mono (by simp))
                have HQ9 : Hid (Below w1.heap.size w1 w17) := HQz.out.trans (hbb.mono HQz.out.size)
                have HD9 := Lib.hid (HDz.out.below hbb)
                obtain ⟨a17, c17, rfl⟩ := hO.len
                have hok9 : rootOk (((j : Int) + 1) + 1) [4] := ⟨⟨by omega, by omega⟩, by intro z hz; simp at hz; omega, by simp⟩
                have HOK9 := Lib.hid hok9
                have hs17 := HQ9.out.size
                clear hb hbb hO hok9
                go_wp2_with fail
                refine (save_ok HD9.out (by decide) (by decide) (by decide) rfl rfl (by omega) hs17 HY.out HOK9.out).mono ?_
                rintro r w18 ⟨rfl, pb18, hD, hp18, hk⟩
                have HFin := Lib.hid (HX.out _ (HQ9.out.trans (HD9.out.out hk hs17 (fun z hz => hz)))).2.2.2
                clear hD hk
                go_wp2_with fail
                go_ret
                exact ⟨rfl, HFin.out⟩
              · simp only at hs
                rw [hs] at hV ⊢
                rw [decide_eq_true (show (0 : Int) < (j : Int) by omega)]
                simp only at hV ⊢
                obtain ⟨a4, c4, rfl, _, _⟩ := hV.len
                obtain ⟨wz, hwz⟩ : ∃ wz, wz = w13.alloc (.cells #[.int .i64 (j : Int), .slice a4 (listN l j).length c4] 48) := ⟨_, rfl⟩
                have HS4 : Hid (RootAt 0 wz w13.heap.size (j : Int) (.slice a4 (listN l j).length c4) (listN l j)) := by rw [hwz]; exact RootAt.new _ hV (fun _ _ => Nat.zero_le _) (Nat.zero_le _)
                have hbz : Below w13.heap.size w13 wz.drew := by rw [hwz]; exact ((Below.refl _ _).alloc (Nat.le_refl _) _).drew
                have hbz2 : Below wz.heap.size wz wz.drew := (Below.refl _ _).drew
                have HA4 := Lib.hid (HA.out.below hbz)
                have HQ4 : Hid (Below w1.heap.size w1 wz.drew) := HQ.out.trans (hbz.mono HQ.out.size)
                have HD4 := Lib.hid (HD.out.below hbz)
                replace HS4 := Lib.hid (HS4.out.below hbz2)
                have HWZ := Lib.hid hwz
                clear hbz hbz2 hwz hV hs c0 c1
                go_wp2_with fail
                rw [← HWZ.out]
                have HKa := And.intro HA4.out.c0 (And.intro HA4.out.c1 (And.intro HS4.out.c0 HS4.out.c1))
                have hwr : IntKind.i64.wrap ((j : Int) + 1) = (j : Int) + 1 := IntWalk.i64_in _ (by omega)
                have hn1 : ((j : Int) != (j : Int) + 1) = true := by rw [bne_iff_ne]; omega
                have hn2 : ((j : Int) == (j : Int) + 1) = false := by rw [beq_eq_false_iff_ne]; omega
                refine wp_region_held_drew (S := (fun wq => wq.cell? ⟨wf.heap.size, 0, none⟩ = some (.int .i64 (j : Int)) ∧ wq.cell? ⟨wf.heap.size, 1, none⟩ = some (.slice av (listN l j).length cv) ∧ wq.cell? ⟨w13.heap.size, 0, none⟩ = some (.int .i64 (j : Int)) ∧ wq.cell? ⟨w13.heap.size, 1, none⟩ = some (.slice a4 (listN l j).length c4))) (by kernel_rfl) HKa (fun hHeld => ?_)
                refine wpAnyH_take (i := 0) (v := (.nilIface)) rfl (by kernel_rfl) (by kernel_rfl) (by kernel_rfl) (fun _ _ _ h => h) (Or.inl ⟨by rfl, fun w hSw => by (go_simp)⟩) hHeld ?_
                (try simp only [Act.put, List.getElem_toArray, List.getElem_cons_succ, List.getElem_cons_zero, List.setIfInBounds_toArray, List.set_cons_zero, List.set_cons_succ])
                refine wpAnyH_take (i := 1) (v := (.bool false)) rfl (by kernel_rfl) (by kernel_rfl) (by kernel_rfl) (fun _ _ _ h => h) (Or.inl ⟨by rfl, fun w hSw => by (go_simp)⟩) hHeld ?_
                (try simp only [Act.put, List.getElem_toArray, List.getElem_cons_succ, List.getElem_cons_zero, List.setIfInBounds_toArray, List.set_cons_zero, List.set_cons_succ])
                refine wpAnyH_take (i := 2) (v := (.bool false)) rfl (by kernel_rfl) (by kernel_rfl) (by kernel_rfl) (fun _ _ _ h => h) (Or.inl ⟨by rfl, fun w hSw => by (go_simp)⟩) hHeld ?_
                (try simp only [Act.put, List.getElem_toArray, List.getElem_cons_succ, List.getElem_cons_zero, List.setIfInBounds_toArray, List.set_cons_zero, List.set_cons_succ])
                refine wpAnyH_take (i := 3) (v := (.bool true)) rfl (by kernel_rfl) (by kernel_rfl) (by kernel_rfl) (fun _ _ _ h => h) (Or.inl ⟨by rfl, fun w hSw => by (go_simp)⟩) hHeld ?_
                (try simp only [Act.put, List.getElem_toArray, List.getElem_cons_succ, List.getElem_cons_zero, List.setIfInBounds_toArray, List.set_cons_zero, List.set_cons_succ])
                refine wpAnyH_take (i := 4) (v := (.bool true)) rfl (by kernel_rfl) (by kernel_rfl) (by kernel_rfl) (fun _ _ _ h => h) (Or.inl ⟨by rfl, fun w hSw => by (go_simp)⟩) hHeld ?_
                (try simp only [Act.put, List.getElem_toArray, List.getElem_cons_succ, List.getElem_cons_zero, List.setIfInBounds_toArray, List.set_cons_zero, List.set_cons_succ])
                refine wpAnyH_take (i := 5) (v := (.bool true)) rfl (by kernel_rfl) (by kernel_rfl) (by kernel_rfl) (fun _ _ _ h => h) (Or.inl ⟨by rfl, fun w hSw => by (go_simp)⟩) hHeld ?_
                (try simp only [Act.put, List.getElem_toArray, List.getElem_cons_succ, List.getElem_cons_zero, List.setIfInBounds_toArray, List.set_cons_zero, List.set_cons_succ])
                refine wpAnyH_take (i := 6) (v := undef) rfl (by kernel_rfl) (by kernel_rfl) (by kernel_rfl) (fun _ _ _ h => h) (Or.inr ⟨by rfl, rfl⟩) hHeld ?_
                (try simp only [Act.put, List.getElem_toArray, List.getElem_cons_succ, List.getElem_cons_zero, List.setIfInBounds_toArray, List.set_cons_zero, List.set_cons_succ])
                refine wpAnyH_take (i := 7) (v := undef) rfl (by kernel_rfl) (by kernel_rfl) (by kernel_rfl) (fun _ _ _ h => h) (Or.inr ⟨by rfl, rfl⟩) hHeld ?_
                (try simp only [Act.put, List.getElem_toArray, List.getElem_cons_succ, List.getElem_cons_zero, List.setIfInBounds_toArray, List.set_cons_zero, List.set_cons_succ])
                refine wpAnyH_take (i := 8) (v := undef) rfl (by kernel_rfl) (by kernel_rfl) (by kernel_rfl) (fun _ _ _ h => h) (Or.inr ⟨by rfl, rfl⟩) hHeld ?_
                (try simp only [Act.put, List.getElem_toArray, List.getElem_cons_succ, List.getElem_cons_zero, List.setIfInBounds_toArray, List.set_cons_zero, List.set_cons_succ])
                refine wpAnyH_take (i := 9) (v := undef) rfl (by kernel_rfl) (by kernel_rfl) (by kernel_rfl) (fun _ _ _ h => h) (Or.inr ⟨by rfl, rfl⟩) hHeld ?_
                (try simp only [Act.put, List.getElem_toArray, List.getElem_cons_succ, List.getElem_cons_zero, List.setIfInBounds_toArray, List.set_cons_zero, List.set_cons_succ])
                refine wpAnyH_take (i := 10) (v := (.bool true)) rfl (by kernel_rfl) (by kernel_rfl) (by kernel_rfl) (fun _ _ _ h => h) (Or.inl ⟨by rfl, fun w hSw => by (go_simp)⟩) hHeld ?_
                (try simp only [Act.put, List.getElem_toArray, List.getElem_cons_succ, List.getElem_cons_zero, List.setIfInBounds_toArray, List.set_cons_zero, List.set_cons_succ])
                refine wpAnyH_take (i := 11) (v := (.bool false)) rfl (by kernel_rfl) (by kernel_rfl) (by kernel_rfl) (fun _ _ _ h => h) (Or.inl ⟨by rfl, fun w hSw => by (go_simp)⟩) hHeld ?_
                (try simp only [Act.put, List.getElem_toArray, List.getElem_cons_succ, List.getElem_cons_zero, List.setIfInBounds_toArray, List.set_cons_zero, List.set_cons_succ])
                refine wpAnyH_take (i := 12) (v := (.bool false)) rfl (by kernel_rfl) (by kernel_rfl) (by kernel_rfl) (fun _ _ _ h => h) (Or.inl ⟨by rfl, fun w hSw => by (go_simp)⟩) hHeld ?_
                (try simp only [Act.put, List.getElem_toArray, List.getElem_cons_succ, List.getElem_cons_zero, List.setIfInBounds_toArray, List.set_cons_zero, List.set_cons_succ])
                refine wpAnyH_take (i := 13) (v := (.bool false)) rfl (by kernel_rfl) (by kernel_rfl) (by kernel_rfl) (fun _ _ _ h => h) (Or.inl ⟨by rfl, fun w hSw => by (go_simp)⟩) hHeld ?_
                (try simp only [Act.put, List.getElem_toArray, List.getElem_cons_succ, List.getElem_cons_zero, List.setIfInBounds_toArray, List.set_cons_zero, List.set_cons_succ])
                refine wpAnyH_take (i := 14) (v := (.bool true)) rfl (by kernel_rfl) (by kernel_rfl) (by kernel_rfl) (fun _ _ _ h => h) (Or.inl ⟨by rfl, fun w hSw => by (go_simp)⟩) hHeld ?_
                (try simp only [Act.put, List.getElem_toArray, List.getElem_cons_succ, List.getElem_cons_zero, List.setIfInBounds_toArray, List.set_cons_zero, List.set_cons_succ])
                refine wpAnyH_take (i := 15) (v := (.bool true)) rfl (by kernel_rfl) (by kernel_rfl) (by kernel_rfl) (fun _ _ _ h => h) (Or.inl ⟨by rfl, fun w hSw => by (go_simp)⟩) hHeld ?_
                (try simp only [Act.put, List.getElem_toArray, List.getElem_cons_succ, List.getElem_cons_zero, List.setIfInBounds_toArray, List.set_cons_zero, List.set_cons_succ])
                refine wpAnyH_take (i := 16) (v := (.pointer (some ⟨w13.heap.size, 0, none⟩))) rfl (by kernel_rfl) (by kernel_rfl) (by kernel_rfl) (fun _ _ _ h => h) (Or.inl ⟨by rfl, fun w hSw => by (go_simp)⟩) hHeld ?_
                (try simp only [Act.put, List.getElem_toArray, List.getElem_cons_succ, List.getElem_cons_zero, List.setIfInBounds_toArray, List.set_cons_zero, List.set_cons_succ])
                refine wpAnyH_take (i := 17) (v := (.int .i64 (j : Int))) rfl (by kernel_rfl) (by kernel_rfl) (by kernel_rfl) (fun _ _ _ h => h) (Or.inl ⟨by rfl, fun w hSw => by (obtain ⟨q0, q1, q2, q3⟩ := hSw; go_simp)⟩) hHeld ?_
                (try simp only [Act.put, List.getElem_toArray, List.getElem_cons_succ, List.getElem_cons_zero, List.setIfInBounds_toArray, List.set_cons_zero, List.set_cons_succ])
                refine wpAnyH_take (i := 18) (v := (.int .i64 ((j : Int) + 1))) rfl (by kernel_rfl) (by kernel_rfl) (by kernel_rfl) (fun _ _ _ h => h) (Or.inl ⟨by rfl, fun w hSw => by (go_simp)⟩) hHeld ?_
                (try simp only [Act.put, List.getElem_toArray, List.getElem_cons_succ, List.getElem_cons_zero, List.setIfInBounds_toArray, List.set_cons_zero, List.set_cons_succ])
                refine wpAnyH_take (i := 19) (v := (.bool true)) rfl (by kernel_rfl) (by kernel_rfl) (by kernel_rfl) (fun _ _ _ h => h) (Or.inl ⟨by rfl, fun w hSw => by (go_simp)⟩) hHeld ?_
                (try simp only [Act.put, List.getElem_toArray, List.getElem_cons_succ, List.getElem_cons_zero, List.setIfInBounds_toArray, List.set_cons_zero, List.set_cons_succ])
                refine wpAnyH_take (i := 20) (v := (.bool true)) rfl (by kernel_rfl) (by kernel_rfl) (by kernel_rfl) (fun _ _ _ h => h) (Or.inl ⟨by rfl, fun w hSw => by (go_simp)⟩) hHeld ?_
                (try simp only [Act.put, List.getElem_toArray, List.getElem_cons_succ, List.getElem_cons_zero, List.setIfInBounds_toArray, List.set_cons_zero, List.set_cons_succ])
                refine wpAnyH_take (i := 21) (v := (.bool true)) rfl (by kernel_rfl) (by kernel_rfl) (by kernel_rfl) (fun _ _ _ h => h) (Or.inl ⟨by rfl, fun w hSw => by (go_simp)⟩) hHeld ?_
                (try simp only [Act.put, List.getElem_toArray, List.getElem_cons_succ, List.getElem_cons_zero, List.setIfInBounds_toArray, List.set_cons_zero, List.set_cons_succ])
                refine wpAnyH_take (i := 22) (v := (rootV (j : Int) (.slice a4 (listN l j).length c4))) rfl (by kernel_rfl) (by kernel_rfl) (by kernel_rfl) (fun _ _ _ h => h) (Or.inl ⟨by rfl, fun w hSw => by (obtain ⟨q0, q1, q2, q3⟩ := hSw; go_simp)⟩) hHeld ?_
                (try simp only [Act.put, List.getElem_toArray, List.getElem_cons_succ, List.getElem_cons_zero, List.setIfInBounds_toArray, List.set_cons_zero, List.set_cons_succ])
                refine wpAnyH_take (i := 23) (v := (rootV (j : Int) (.slice av (listN l j).length cv))) rfl (by kernel_rfl) (by kernel_rfl) (by kernel_rfl) (fun _ _ _ h => h) (Or.inl ⟨by rfl, fun w hSw => by (obtain ⟨q0, q1, q2, q3⟩ := hSw; go_simp)⟩) hHeld ?_
                (try simp only [Act.put, List.getElem_toArray, List.getElem_cons_succ, List.getElem_cons_zero, List.setIfInBounds_toArray, List.set_cons_zero, List.set_cons_succ])
                refine wpAnyH_ready (rs := [24]) (by kernel_rfl) (by simp) ?_
                refine AllReadyH.cons rfl (fun K hK => ?_) AllReadyH.nil
                go_simp
                go_wp2_with (go_at_call 35; refine (same_calls (j : Int) (j : Int) HS4.out.rd HA4.out.rd).mono ?_; rintro r w16 ⟨rfl, hb⟩; have HA6 := Lib.hid (HA4.out.below hb); have HS6 := Lib.hid (HS4.out.below hb); have HQz : Hid (Below w1.heap.size w1 w16) := HQ4.out.trans (hb.mono HQ4.out.size); have HDz := Lib.hid (HD4.out.below hb); rw [show decide ((j : Int) = (j : Int) ∧ listN l j = listN l j) = true by simp]; clear hb)
                refine hK.out _ _ ?_ (fun hHeld2 => ?_)
                · exact ⟨HA6.out.c0, HA6.out.c1, HS6.out.c0, HS6.out.c1⟩
                clear hHeld hK K
                have hHeld := hHeld2
                clear hHeld2
                (try simp only [Act.put, List.getElem_toArray, List.getElem_cons_succ, List.getElem_cons_zero, List.setIfInBounds_toArray, List.set_cons_zero, List.set_cons_succ])
                refine wpAnyH_take (i := 25) (v := (.bool false)) rfl (by kernel_rfl) (by kernel_rfl) (by kernel_rfl) (fun _ _ _ h => h) (Or.inl ⟨by rfl, fun w hSw => by (go_simp)⟩) hHeld ?_
                (try simp only [Act.put, List.getElem_toArray, List.getElem_cons_succ, List.getElem_cons_zero, List.setIfInBounds_toArray, List.set_cons_zero, List.set_cons_succ])
                refine wpAnyH_take (i := 26) (v := (.bool false)) rfl (by kernel_rfl) (by kernel_rfl) (by kernel_rfl) (fun _ _ _ h => h) (Or.inl ⟨by rfl, fun w hSw => by (go_simp)⟩) hHeld ?_
                (try simp only [Act.put, List.getElem_toArray, List.getElem_cons_succ, List.getElem_cons_zero, List.setIfInBounds_toArray, List.set_cons_zero, List.set_cons_succ])
                refine wpAnyH_take (i := 27) (v := (.bool false)) rfl (by kernel_rfl) (by kernel_rfl) (by kernel_rfl) (fun _ _ _ h => h) (Or.inl ⟨by rfl, fun w hSw => by (go_simp)⟩) hHeld ?_
                (try simp only [Act.put, List.getElem_toArray, List.getElem_cons_succ, List.getElem_cons_zero, List.setIfInBounds_toArray, List.set_cons_zero, List.set_cons_succ])
                refine wpAnyH_take (i := 28) (v := (.bool false)) rfl (by kernel_rfl) (by kernel_rfl) (by kernel_rfl) (fun _ _ _ h => h) (Or.inl ⟨by rfl, fun w hSw => by (go_simp)⟩) hHeld ?_
                (try simp only [Act.put, List.getElem_toArray, List.getElem_cons_succ, List.getElem_cons_zero, List.setIfInBounds_toArray, List.set_cons_zero, List.set_cons_succ])
                refine wpAnyH_take (i := 29) (v := (.bool true)) rfl (by kernel_rfl) (by kernel_rfl) (by kernel_rfl) (fun _ _ _ h => h) (Or.inl ⟨by rfl, fun w hSw => by (go_simp)⟩) hHeld ?_
                (try simp only [Act.put, List.getElem_toArray, List.getElem_cons_succ, List.getElem_cons_zero, List.setIfInBounds_toArray, List.set_cons_zero, List.set_cons_succ])
                refine wpAnyH_take (i := 30) (v := (.bool true)) rfl (by kernel_rfl) (by kernel_rfl) (by kernel_rfl) (fun _ _ _ h => h) (Or.inl ⟨by rfl, fun w hSw => by (go_simp)⟩) hHeld ?_
                (try simp only [Act.put, List.getElem_toArray, List.getElem_cons_succ, List.getElem_cons_zero, List.setIfInBounds_toArray, List.set_cons_zero, List.set_cons_succ])
                refine wpAnyH_take (i := 31) (v := (.pointer (some ⟨w13.heap.size, 0, none⟩))) rfl (by kernel_rfl) (by kernel_rfl) (by kernel_rfl) (fun _ _ _ h => h) (Or.inl ⟨by rfl, fun w hSw => by (go_simp)⟩) hHeld ?_
                (try simp only [Act.put, List.getElem_toArray, List.getElem_cons_succ, List.getElem_cons_zero, List.setIfInBounds_toArray, List.set_cons_zero, List.set_cons_succ])
                refine wpAnyH_take (i := 32) (v := (.int .i64 (j : Int))) rfl (by kernel_rfl) (by kernel_rfl) (by kernel_rfl) (fun _ _ _ h => h) (Or.inl ⟨by rfl, fun w hSw => by (obtain ⟨q0, q1, q2, q3⟩ := hSw; go_simp)⟩) hHeld ?_
                (try simp only [Act.put, List.getElem_toArray, List.getElem_cons_succ, List.getElem_cons_zero, List.setIfInBounds_toArray, List.set_cons_zero, List.set_cons_succ])
                refine wpAnyH_take (i := 33) (v := (.int .i64 ((j : Int) + 1))) rfl (by kernel_rfl) (by kernel_rfl) (by kernel_rfl) (fun _ _ _ h => h) (Or.inl ⟨by rfl, fun w hSw => by (go_simp)⟩) hHeld ?_
                (try simp only [Act.put, List.getElem_toArray, List.getElem_cons_succ, List.getElem_cons_zero, List.setIfInBounds_toArray, List.set_cons_zero, List.set_cons_succ])
                refine wpAnyH_take (i := 34) (v := (.bool false)) rfl (by kernel_rfl) (by kernel_rfl) (by kernel_rfl) (fun _ _ _ h => h) (Or.inl ⟨by rfl, fun w hSw => by (go_simp)⟩) hHeld ?_
                (try simp only [Act.put, List.getElem_toArray, List.getElem_cons_succ, List.getElem_cons_zero, List.setIfInBounds_toArray, List.set_cons_zero, List.set_cons_succ])
                refine wpAnyH_take (i := 35) (v := (.bool false)) rfl (by kernel_rfl) (by kernel_rfl) (by kernel_rfl) (fun _ _ _ h => h) (Or.inl ⟨by rfl, fun w hSw => by (go_simp)⟩) hHeld ?_
                (try simp only [Act.put, List.getElem_toArray, List.getElem_cons_succ, List.getElem_cons_zero, List.setIfInBounds_toArray, List.set_cons_zero, List.set_cons_succ])
                refine wpAnyH_take (i := 36) (v := (.bool false)) rfl (by kernel_rfl) (by kernel_rfl) (by kernel_rfl) (fun _ _ _ h => h) (Or.inl ⟨by rfl, fun w hSw => by (go_simp)⟩) hHeld ?_
                (try simp only [Act.put, List.getElem_toArray, List.getElem_cons_succ, List.getElem_cons_zero, List.setIfInBounds_toArray, List.set_cons_zero, List.set_cons_succ])
                refine wpAnyH_take (i := 37) (v := undef) rfl (by kernel_rfl) (by kernel_rfl) (by kernel_rfl) (fun _ _ _ h => h) (Or.inr ⟨by rfl, rfl⟩) hHeld ?_
                (try simp only [Act.put, List.getElem_toArray, List.getElem_cons_succ, List.getElem_cons_zero, List.setIfInBounds_toArray, List.set_cons_zero, List.set_cons_succ])
                refine wpAnyH_take (i := 38) (v := undef) rfl (by kernel_rfl) (by kernel_rfl) (by kernel_rfl) (fun _ _ _ h => h) (Or.inr ⟨by rfl, rfl⟩) hHeld ?_
                (try simp only [Act.put, List.getElem_toArray, List.getElem_cons_succ, List.getElem_cons_zero, List.setIfInBounds_toArray, List.set_cons_zero, List.set_cons_succ])
                refine wpAnyH_take (i := 39) (v := undef) rfl (by kernel_rfl) (by kernel_rfl) (by kernel_rfl) (fun _ _ _ h => h) (Or.inr ⟨by rfl, rfl⟩) hHeld ?_
                (try simp only [Act.put, List.getElem_toArray, List.getElem_cons_succ, List.getElem_cons_zero, List.setIfInBounds_toArray, List.set_cons_zero, List.set_cons_succ])
                refine wpAnyH_take (i := 40) (v := undef) rfl (by kernel_rfl) (by kernel_rfl) (by kernel_rfl) (fun _ _ _ h => h) (Or.inr ⟨by rfl, rfl⟩) hHeld ?_
                (try simp only [Act.put, List.getElem_toArray, List.getElem_cons_succ, List.getElem_cons_zero, List.setIfInBounds_toArray, List.set_cons_zero, List.set_cons_succ])
                refine wpAnyH_take (i := 41) (v := undef) rfl (by kernel_rfl) (by kernel_rfl) (by kernel_rfl) (fun _ _ _ h => h) (Or.inr ⟨by rfl, rfl⟩) hHeld ?_
                (try simp only [Act.put, List.getElem_toArray, List.getElem_cons_succ, List.getElem_cons_zero, List.setIfInBounds_toArray, List.set_cons_zero, List.set_cons_succ])
                refine wpAnyH_take (i := 42) (v := undef) rfl (by kernel_rfl) (by kernel_rfl) (by kernel_rfl) (fun _ _ _ h => h) (Or.inr ⟨by rfl, rfl⟩) hHeld ?_
                (try simp only [Act.put, List.getElem_toArray, List.getElem_cons_succ, List.getElem_cons_zero, List.setIfInBounds_toArray, List.set_cons_zero, List.set_cons_succ])
                refine wpAnyH_take (i := 43) (v := (.bool false)) rfl (by kernel_rfl) (by kernel_rfl) (by kernel_rfl) (fun _ _ _ h => h) (Or.inl ⟨by rfl, fun w hSw => by (go_simp)⟩) hHeld ?_
                (try simp only [Act.put, List.getElem_toArray, List.getElem_cons_succ, List.getElem_cons_zero, List.setIfInBounds_toArray, List.set_cons_zero, List.set_cons_succ])
                refine wpAnyH_take (i := 44) (v := (.bool false)) rfl (by kernel_rfl) (by kernel_rfl) (by kernel_rfl) (fun _ _ _ h => h) (Or.inl ⟨by rfl, fun w hSw => by (go_simp)⟩) hHeld ?_
                (try simp only [Act.put, List.getElem_toArray, List.getElem_cons_succ, List.getElem_cons_zero, List.setIfInBounds_toArray, List.set_cons_zero, List.set_cons_succ])
                refine wpAnyH_done (by kernel_rfl) ?_ _
                have c2 := HS6.out.c0
                have hs16 := HS6.out.lt
                go_wp2_with fail
                refine (made_calls ((j : Int) + 1) (rdK_one .i64 _ 4 _) (by decide)).mono ?_
                rintro r w17 ⟨u17, rfl, hO, hb⟩
                have HY := Lib.hid hO.rdK
                have hbb : Below w16.heap.size w16 w17 := ((Below.refl w16.heap.size w16).alloc (Nat.le_refl _) (.cells #[.int .i64 4] 3)).trans (hb.mono (by simp))
                have HQ9 : Hid (Below w1.heap.size w1 w17) := HQz.out.trans (hbb.mono HQz.out.size)
                have HD9 := Lib.hid (HDz.out.below hbb)
                obtain ⟨a17, c17, rfl⟩ := hO.len
                have hok9 : rootOk ((j : Int) + 1) [4] := ⟨⟨by omega, by omega⟩, by intro z hz; simp at hz; omega, by simp⟩
                have HOK9 := Lib.hid hok9
                have hs17 := HQ9.out.size
                clear hb hbb hO hok9
                go_wp2_with fail
                refine (save_ok HD9.out (by decide) (by decide) (by decide) rfl rfl (by omega) hs17 HY.out HOK9.out).mono ?_
                rintro r w18 ⟨rfl, pb18, hD, hp18, hk⟩
                have HFin := Lib.hid (HX.out _ (HQ9.out.trans (HD9.out.out hk hs17 (fun z hz => hz)))).2.2.2
                clear hD hk
                go_wp2_with fail
                go_ret
                exact ⟨rfl, HFin.out⟩
        · obtain ⟨e, he⟩ : ∃ e : Int, e = 0 := ⟨0, rfl⟩
          rw [← he] at hRj
          have he1 : 0 ≤ e := by omega
          have he2 : e < 1 := by omega
          clear he
          have HJ := Lib.hid hk0
          clear hk0
          subst hRj
          simp only at hV ⊢
          rw [decide_eq_false (show ¬ (0 : Int) < e by omega)]
          obtain ⟨av, cv, rfl, _, _⟩ := hV.len
          have HA : Hid (RootAt we.heap.size (wf.alloc (.cells #[.int .i64 e, .slice av 0 cv] 48)) wf.heap.size e (.slice av 0 cv) (([] : List Int))) := RootAt.new _ hV (fun g hg => Nat.le_of_lt (HOW.out g hg)) hs7
          obtain ⟨wy, hwy⟩ : ∃ wy, wy = wf.alloc (.cells #[.int .i64 e, .slice av 0 cv] 48) := ⟨_, rfl⟩
          rw [← hwy] at HA
          have hby : Below wf.heap.size wf wy := by rw [hwy]; (repeat (first | exact Below.refl _ _ | assumption | refine Below.drew ?_ | refine below_many ?_ _ | refine Below.alloc ?_ (by first | (simp; done) | (simp; omega) | omega) _ | refine Below.setCell ?_ (by first | (simp; done) | (simp; omega) | omega) _))
          replace HQ : Hid (Below w1.heap.size w1 wy) := HQ.out.trans (hby.mono HQ.out.size)
          replace HD := Lib.hid (HD.out.below hby)
          have HWY := Lib.hid hwy
          clear hby hwy hV HOW
          go_wp2_with fail
          rw [← HWY.out]
          refine (is_ev (HE.out.below (HX.out _ HQ.out).2.2.2) (k := 8) (by decide) 109).mono ?_
          rintro r w8 ⟨rfl, hb⟩
          rw [show ((101 + ((8 : Nat) : Int)) == 109) = true from rfl]
          replace HA := Lib.hid (HA.out.below hb)
          replace HQ : Hid (Below w1.heap.size w1 w8) := HQ.out.trans (hb.mono HQ.out.size)
          replace HD := Lib.hid (HD.out.below hb)
          clear hb HWY
          have c0 := HA.out.c0
          have c1 := HA.out.c1
          have hrl := HA.out.lt
          have hkz : decide ((0 : Int) < (k : Int)) = false := decide_eq_false (by have := HJ.out; omega)
          have hkz2 : decide (0 < k) = false := decide_eq_false (by have := HJ.out; omega)
          have hkz3 : ¬ 0 < k := by have := HJ.out; omega
          go_wp2_with fail
          have hb8 : Below w8.heap.size w8 w8.drew := (Below.refl _ _).drew
          have HAg := Lib.hid (HA.out.below hb8)
          have HQg : Hid (Below w1.heap.size w1 w8.drew) := HQ.out.trans (hb8.mono HQ.out.size)
          have HDg := Lib.hid (HD.out.below hb8)
          refine wp_region_held_drew (S := (fun _ => True)) (by kernel_rfl) trivial (fun hHeld => ?_)
          refine wpAnyH_take (i := 0) (v := (.bool false)) rfl (by kernel_rfl) (by kernel_rfl) (by kernel_rfl) (fun _ _ _ h => h) (Or.inl ⟨by rfl, fun w hSw => by (go_simp)⟩) hHeld ?_
          (try simp only [Act.put, List.getElem_toArray, List.getElem_cons_succ, List.getElem_cons_zero, List.setIfInBounds_toArray, List.set_cons_zero, List.set_cons_succ])
          refine wpAnyH_take (i := 1) (v := (.bool false)) rfl (by kernel_rfl) (by kernel_rfl) (by kernel_rfl) (fun _ _ _ h => h) (Or.inl ⟨by rfl, fun w hSw => by (go_simp)⟩) hHeld ?_
          (try simp only [Act.put, List.getElem_toArray, List.getElem_cons_succ, List.getElem_cons_zero, List.setIfInBounds_toArray, List.set_cons_zero, List.set_cons_succ])
          refine wpAnyH_take (i := 2) (v := undef) rfl (by kernel_rfl) (by kernel_rfl) (by kernel_rfl) (fun _ _ _ h => h) (Or.inr ⟨by rfl, rfl⟩) hHeld ?_
          (try simp only [Act.put, List.getElem_toArray, List.getElem_cons_succ, List.getElem_cons_zero, List.setIfInBounds_toArray, List.set_cons_zero, List.set_cons_succ])
          refine wpAnyH_take (i := 3) (v := undef) rfl (by kernel_rfl) (by kernel_rfl) (by kernel_rfl) (fun _ _ _ h => h) (Or.inr ⟨by rfl, rfl⟩) hHeld ?_
          (try simp only [Act.put, List.getElem_toArray, List.getElem_cons_succ, List.getElem_cons_zero, List.setIfInBounds_toArray, List.set_cons_zero, List.set_cons_succ])
          refine wpAnyH_take (i := 4) (v := undef) rfl (by kernel_rfl) (by kernel_rfl) (by kernel_rfl) (fun _ _ _ h => h) (Or.inr ⟨by rfl, rfl⟩) hHeld ?_
          (try simp only [Act.put, List.getElem_toArray, List.getElem_cons_succ, List.getElem_cons_zero, List.setIfInBounds_toArray, List.set_cons_zero, List.set_cons_succ])
          refine wpAnyH_take (i := 5) (v := undef) rfl (by kernel_rfl) (by kernel_rfl) (by kernel_rfl) (fun _ _ _ h => h) (Or.inr ⟨by rfl, rfl⟩) hHeld ?_
          (try simp only [Act.put, List.getElem_toArray, List.getElem_cons_succ, List.getElem_cons_zero, List.setIfInBounds_toArray, List.set_cons_zero, List.set_cons_succ])
          refine wpAnyH_take (i := 6) (v := undef) rfl (by kernel_rfl) (by kernel_rfl) (by kernel_rfl) (fun _ _ _ h => h) (Or.inr ⟨by rfl, rfl⟩) hHeld ?_
          (try simp only [Act.put, List.getElem_toArray, List.getElem_cons_succ, List.getElem_cons_zero, List.setIfInBounds_toArray, List.set_cons_zero, List.set_cons_succ])
          refine wpAnyH_take (i := 7) (v := undef) rfl (by kernel_rfl) (by kernel_rfl) (by kernel_rfl) (fun _ _ _ h => h) (Or.inr ⟨by rfl, rfl⟩) hHeld ?_
          (try simp only [Act.put, List.getElem_toArray, List.getElem_cons_succ, List.getElem_cons_zero, List.setIfInBounds_toArray, List.set_cons_zero, List.set_cons_succ])
          refine wpAnyH_take (i := 8) (v := undef) rfl (by kernel_rfl) (by kernel_rfl) (by kernel_rfl) (fun _ _ _ h => h) (Or.inr ⟨by rfl, rfl⟩) hHeld ?_
          (try simp only [Act.put, List.getElem_toArray, List.getElem_cons_succ, List.getElem_cons_zero, List.setIfInBounds_toArray, List.set_cons_zero, List.set_cons_succ])
          refine wpAnyH_take (i := 9) (v := undef) rfl (by kernel_rfl) (by kernel_rfl) (by kernel_rfl) (fun _ _ _ h => h) (Or.inr ⟨by rfl, rfl⟩) hHeld ?_
          (try simp only [Act.put, List.getElem_toArray, List.getElem_cons_succ, List.getElem_cons_zero, List.setIfInBounds_toArray, List.set_cons_zero, List.set_cons_succ])
          refine wpAnyH_take (i := 10) (v := undef) rfl (by kernel_rfl) (by kernel_rfl) (by kernel_rfl) (fun _ _ _ h => h) (Or.inr ⟨by rfl, rfl⟩) hHeld ?_
          (try simp only [Act.put, List.getElem_toArray, List.getElem_cons_succ, List.getElem_cons_zero, List.setIfInBounds_toArray, List.set_cons_zero, List.set_cons_succ])
          refine wpAnyH_take (i := 11) (v := undef) rfl (by kernel_rfl) (by kernel_rfl) (by kernel_rfl) (fun _ _ _ h => h) (Or.inr ⟨by rfl, rfl⟩) hHeld ?_
          (try simp only [Act.put, List.getElem_toArray, List.getElem_cons_succ, List.getElem_cons_zero, List.setIfInBounds_toArray, List.set_cons_zero, List.set_cons_succ])
          refine wpAnyH_take (i := 12) (v := (.bool false)) rfl (by kernel_rfl) (by kernel_rfl) (by kernel_rfl) (fun _ _ _ h => h) (Or.inl ⟨by rfl, fun w hSw => by (go_simp)⟩) hHeld ?_
          (try simp only [Act.put, List.getElem_toArray, List.getElem_cons_succ, List.getElem_cons_zero, List.setIfInBounds_toArray, List.set_cons_zero, List.set_cons_succ])
          refine wpAnyH_done (by kernel_rfl) ?_ _
          obtain ⟨w8d, hw8d⟩ : ∃ w8d, w8d = w8.drew := ⟨_, rfl⟩
          rw [← hw8d] at HAg HQg HDg ⊢
          have HKd := And.intro HAg.out.c0 HAg.out.c1
          clear hw8d hHeld hb8 c0 c1
          all_goals
            clear HA HQ HD hrl hs3 hs4 hs6
            have hsg := HAg.out.lt
            obtain ⟨c0, c1⟩ := HKd
            go_wp2_with fail
            refine (da_arm HDg.out 2).mono ?_
            rintro r w9 ⟨rfl, hD, hk⟩
            rw [if_neg (by decide)] at hD
            have HA := Lib.hid (HAg.out.keep hk (fun x hx => by rw [hx]; exact hd6.1))
            have HQ : Hid (Below w1.heap.size w1 w9) := HQg.out.trans (HDg.out.out hk HQg.out.size (fun z hz => .inl hz))
            have HD := Lib.hid hD
            clear HAg HQg HDg hD hk c0 c1 hsg
            go_wp2_with fail
            refine (made_calls (e + 1) (rdK_three w9 1 2 3 _) (by decide)).mono ?_
            rintro r w10 ⟨u3, rfl, hO, hb⟩
            have HY := Lib.hid hO.rdK
            have hbb : Below w9.heap.size w9 w10 := ((Below.refl w9.heap.size w9).alloc (Nat.le_refl _) (.cells #[.int .i64 1, .int .i64 2, .int .i64 3] 3)).trans (hb.mono (by simp))
            replace HA := Lib.hid (HA.out.below hbb)
            replace HQ : Hid (Below w1.heap.size w1 w10) := HQ.out.trans (hbb.mono HQ.out.size)
            replace HD := Lib.hid (HD.out.below hbb)
            obtain ⟨a3, c3, rfl⟩ := hO.len
            have hokn : rootOk (e + 1) [1, 2, 3] := ⟨⟨by omega, by omega⟩, by intro z hz; simp at hz; omega, by simp⟩
            have HOKN := Lib.hid hokn
            have hs10 := HQ.out.size
            clear hb hbb hO hokn
            go_wp2_with fail
            refine (save_gone2 (HE.out.below (HX.out _ HQ.out).2.2.2) (by decide) (Nat.le_of_lt hx1) HD.out (by decide) (by decide) (by decide) rfl rfl (by omega) hs10 HY.out HOKN.out).mono ?_
            rintro r w11 ⟨rfl, hD, hk⟩
            replace HA := Lib.hid (HA.out.keep hk (fun x hx => by rcases hx with rfl | rfl | rfl <;> omega))
            replace HQ : Hid (Below w1.heap.size w1 w11) := HQ.out.trans (HD.out.out hk hs10 (fun z hz => hz))
            replace HD := Lib.hid hD
            obtain ⟨_, _, hq2, _⟩ := HX.out _ HQ.out
            have HQ2 := Lib.hid hq2
            have hs11 := HQ.out.size
            clear hD hk hq2 HY
            go_wp2_with fail
            refine (da_crash HD.out (by decide) hs11 HQ2.out HQB.out).mono ?_
            rintro r w12 ⟨rfl, pb9, hD, hp9, hk⟩
            replace hD : DA w1.heap.size w12 (w1.heap.size + 2) w1.heap.size pb9 6 (tornF g (e + 1) (rootL (e + 1) [1, 2, 3]) qs) [] (calls7 + 1) 0 false := hD
            replace HA := Lib.hid (HA.out.keep hk (fun x hx => by rcases hx with rfl | rfl <;> omega))
            replace HQ : Hid (Below w1.heap.size w1 w12) := HQ.out.trans (HD.out.out hk hs11 (fun z hz => hz.elim .inl (fun h => .inr (.inl h))))
            replace HD := Lib.hid hD
            clear hD hk HQ2
            go_wp2_with fail
            refine (load_own (HE.out.below (HX.out _ HQ.out).2.2.2) (by decide) (by decide) HD.out (by decide) (by decide) (fun i => by rw [rdS_nil']; exact tornF_bytes HBY.out (rootL_bytes _ _ (by decide)) i)).mono ?_
            rintro r w13 ⟨hb, v14, rfl, hV, hown⟩
            rw [rdS_nil'] at hV ⊢
            replace HA := Lib.hid (HA.out.below hb)
            replace HQ : Hid (Below w1.heap.size w1 w13) := HQ.out.trans (hb.mono HQ.out.size)
            replace HD := Lib.hid (HD.out.below hb)
            have hs13 := HA.out.lt
            have c0 := HA.out.c0
            have c1 := HA.out.c1
            have HST2 := Lib.hid (stage2 (listN_all l) k hk20 qs HS.out)
            clear hb hown
            rcases HST2.out with hs | hs
            · simp only at hs
              rw [hs] at hV ⊢
              rw [decide_eq_true (show (0 : Int) < e + 1 by omega)]
              simp only at hV ⊢
              obtain ⟨a4, c4, rfl, _, _⟩ := hV.len
              obtain ⟨wz, hwz⟩ : ∃ wz, wz = w13.alloc (.cells #[.int .i64 (e + 1), .slice a4 3 c4] 48) := ⟨_, rfl⟩
              have HS4 : Hid (RootAt 0 wz w13.heap.size (e + 1) (.slice a4 3 c4) ([1, 2, 3])) := by rw [hwz]; exact RootAt.new _ hV (fun _ _ => Nat.zero_le _) (Nat.zero_le _)
              have hbz : Below w13.heap.size w13 wz.drew := by rw [hwz]; exact ((Below.refl _ _).alloc (Nat.le_refl _) _).drew
              have hbz2 : Below wz.heap.size wz wz.drew := (Below.refl _ _).drew
              have HA4 := Lib.hid (HA.out.below hbz)
              have HQ4 : Hid (Below w1.heap.size w1 wz.drew) := HQ.out.trans (hbz.mono HQ.out.size)
              have HD4 := Lib.hid (HD.out.below hbz)
              replace HS4 := Lib.hid (HS4.out.below hbz2)
              have HWZ := Lib.hid hwz
              clear hbz hbz2 hwz hV hs c0 c1
              go_wp2_with fail
              rw [← HWZ.out]
              have HKa := And.intro HA4.out.c0 (And.intro HA4.out.c1 (And.intro HS4.out.c0 HS4.out.c1))
              have hwr : IntKind.i64.wrap ((e + 1) + 1) = (e + 1) + 1 := IntWalk.i64_in _ (by omega)
              refine wp_region_held_drew (S := (fun wq => wq.cell? ⟨wf.heap.size, 0, none⟩ = some (.int .i64 e) ∧ wq.cell? ⟨wf.heap.size, 1, none⟩ = some (.slice av 0 cv) ∧ wq.cell? ⟨w13.heap.size, 0, none⟩ = some (.int .i64 (e + 1)) ∧ wq.cell? ⟨w13.heap.size, 1, none⟩ = some (.slice a4 3 c4))) (by kernel_rfl) HKa (fun hHeld => ?_)
              refine wpAnyH_take (i := 0) (v := (.nilIface)) rfl (by kernel_rfl) (by kernel_rfl) (by kernel_rfl) (fun _ _ _ h => h) (Or.inl ⟨by rfl, fun w hSw => by (go_simp)⟩) hHeld ?_
              (try simp only [Act.put, List.getElem_toArray, List.getElem_cons_succ, List.getElem_cons_zero, List.setIfInBounds_toArray, List.set_cons_zero, List.set_cons_succ])
              refine wpAnyH_take (i := 1) (v := (.bool false)) rfl (by kernel_rfl) (by kernel_rfl) (by kernel_rfl) (fun _ _ _ h => h) (Or.inl ⟨by rfl, fun w hSw => by (go_simp)⟩) hHeld ?_
              (try simp only [Act.put, List.getElem_toArray, List.getElem_cons_succ, List.getElem_cons_zero, List.setIfInBounds_toArray, List.set_cons_zero, List.set_cons_succ])
              refine wpAnyH_take (i := 2) (v := (.bool false)) rfl (by kernel_rfl) (by kernel_rfl) (by kernel_rfl) (fun _ _ _ h => h) (Or.inl ⟨by rfl, fun w hSw => by (go_simp)⟩) hHeld ?_
              (try simp only [Act.put, List.getElem_toArray, List.getElem_cons_succ, List.getElem_cons_zero, List.setIfInBounds_toArray, List.set_cons_zero, List.set_cons_succ])
              refine wpAnyH_take (i := 3) (v := (.bool true)) rfl (by kernel_rfl) (by kernel_rfl) (by kernel_rfl) (fun _ _ _ h => h) (Or.inl ⟨by rfl, fun w hSw => by (go_simp)⟩) hHeld ?_
              (try simp only [Act.put, List.getElem_toArray, List.getElem_cons_succ, List.getElem_cons_zero, List.setIfInBounds_toArray, List.set_cons_zero, List.set_cons_succ])
              refine wpAnyH_take (i := 4) (v := (.bool false)) rfl (by kernel_rfl) (by kernel_rfl) (by kernel_rfl) (fun _ _ _ h => h) (Or.inl ⟨by rfl, fun w hSw => by (go_simp)⟩) hHeld ?_
              (try simp only [Act.put, List.getElem_toArray, List.getElem_cons_succ, List.getElem_cons_zero, List.setIfInBounds_toArray, List.set_cons_zero, List.set_cons_succ])
              refine wpAnyH_take (i := 5) (v := (.bool false)) rfl (by kernel_rfl) (by kernel_rfl) (by kernel_rfl) (fun _ _ _ h => h) (Or.inl ⟨by rfl, fun w hSw => by (go_simp)⟩) hHeld ?_
              (try simp only [Act.put, List.getElem_toArray, List.getElem_cons_succ, List.getElem_cons_zero, List.setIfInBounds_toArray, List.set_cons_zero, List.set_cons_succ])
              refine wpAnyH_take (i := 6) (v := (.pointer (some ⟨w13.heap.size, 0, none⟩))) rfl (by kernel_rfl) (by kernel_rfl) (by kernel_rfl) (fun _ _ _ h => h) (Or.inl ⟨by rfl, fun w hSw => by (go_simp)⟩) hHeld ?_
              (try simp only [Act.put, List.getElem_toArray, List.getElem_cons_succ, List.getElem_cons_zero, List.setIfInBounds_toArray, List.set_cons_zero, List.set_cons_succ])
              refine wpAnyH_take (i := 7) (v := (.int .i64 (e + 1))) rfl (by kernel_rfl) (by kernel_rfl) (by kernel_rfl) (fun _ _ _ h => h) (Or.inl ⟨by rfl, fun w hSw => by (obtain ⟨q0, q1, q2, q3⟩ := hSw; go_simp)⟩) hHeld ?_
              (try simp only [Act.put, List.getElem_toArray, List.getElem_cons_succ, List.getElem_cons_zero, List.setIfInBounds_toArray, List.set_cons_zero, List.set_cons_succ])
              refine wpAnyH_take (i := 8) (v := (.int .i64 (e + 1))) rfl (by kernel_rfl) (by kernel_rfl) (by kernel_rfl) (fun _ _ _ h => h) (Or.inl ⟨by rfl, fun w hSw => by (go_simp)⟩) hHeld ?_
              (try simp only [Act.put, List.getElem_toArray, List.getElem_cons_succ, List.getElem_cons_zero, List.setIfInBounds_toArray, List.set_cons_zero, List.set_cons_succ])
              refine wpAnyH_take (i := 9) (v := (.bool true)) rfl (by kernel_rfl) (by kernel_rfl) (by kernel_rfl) (fun _ _ _ h => h) (Or.inl ⟨by rfl, fun w hSw => by (go_simp)⟩) hHeld ?_
              (try simp only [Act.put, List.getElem_toArray, List.getElem_cons_succ, List.getElem_cons_zero, List.setIfInBounds_toArray, List.set_cons_zero, List.set_cons_succ])
              refine wpAnyH_take (i := 10) (v := (.bool true)) rfl (by kernel_rfl) (by kernel_rfl) (by kernel_rfl) (fun _ _ _ h => h) (Or.inl ⟨by rfl, fun w hSw => by (go_simp)⟩) hHeld ?_
              (try simp only [Act.put, List.getElem_toArray, List.getElem_cons_succ, List.getElem_cons_zero, List.setIfInBounds_toArray, List.set_cons_zero, List.set_cons_succ])
              refine wpAnyH_take (i := 11) (v := (.bool false)) rfl (by kernel_rfl) (by kernel_rfl) (by kernel_rfl) (fun _ _ _ h => h) (Or.inl ⟨by rfl, fun w hSw => by (go_simp)⟩) hHeld ?_
              (try simp only [Act.put, List.getElem_toArray, List.getElem_cons_succ, List.getElem_cons_zero, List.setIfInBounds_toArray, List.set_cons_zero, List.set_cons_succ])
              refine wpAnyH_take (i := 12) (v := (.bool false)) rfl (by kernel_rfl) (by kernel_rfl) (by kernel_rfl) (fun _ _ _ h => h) (Or.inl ⟨by rfl, fun w hSw => by (go_simp)⟩) hHeld ?_
              (try simp only [Act.put, List.getElem_toArray, List.getElem_cons_succ, List.getElem_cons_zero, List.setIfInBounds_toArray, List.set_cons_zero, List.set_cons_succ])
              refine wpAnyH_take (i := 13) (v := (.bool false)) rfl (by kernel_rfl) (by kernel_rfl) (by kernel_rfl) (fun _ _ _ h => h) (Or.inl ⟨by rfl, fun w hSw => by (go_simp)⟩) hHeld ?_
              (try simp only [Act.put, List.getElem_toArray, List.getElem_cons_succ, List.getElem_cons_zero, List.setIfInBounds_toArray, List.set_cons_zero, List.set_cons_succ])
              refine wpAnyH_take (i := 14) (v := (.bool true)) rfl (by kernel_rfl) (by kernel_rfl) (by kernel_rfl) (fun _ _ _ h => h) (Or.inl ⟨by rfl, fun w hSw => by (go_simp)⟩) hHeld ?_
              (try simp only [Act.put, List.getElem_toArray, List.getElem_cons_succ, List.getElem_cons_zero, List.setIfInBounds_toArray, List.set_cons_zero, List.set_cons_succ])
              refine wpAnyH_take (i := 15) (v := (.bool true)) rfl (by kernel_rfl) (by kernel_rfl) (by kernel_rfl) (fun _ _ _ h => h) (Or.inl ⟨by rfl, fun w hSw => by (go_simp)⟩) hHeld ?_
              (try simp only [Act.put, List.getElem_toArray, List.getElem_cons_succ, List.getElem_cons_zero, List.setIfInBounds_toArray, List.set_cons_zero, List.set_cons_succ])
              refine wpAnyH_take (i := 16) (v := (.pointer (some ⟨w13.heap.size, 0, none⟩))) rfl (by kernel_rfl) (by kernel_rfl) (by kernel_rfl) (fun _ _ _ h => h) (Or.inl ⟨by rfl, fun w hSw => by (go_simp)⟩) hHeld ?_
              (try simp only [Act.put, List.getElem_toArray, List.getElem_cons_succ, List.getElem_cons_zero, List.setIfInBounds_toArray, List.set_cons_zero, List.set_cons_succ])
              refine wpAnyH_take (i := 17) (v := (.int .i64 (e + 1))) rfl (by kernel_rfl) (by kernel_rfl) (by kernel_rfl) (fun _ _ _ h => h) (Or.inl ⟨by rfl, fun w hSw => by (obtain ⟨q0, q1, q2, q3⟩ := hSw; go_simp)⟩) hHeld ?_
              (try simp only [Act.put, List.getElem_toArray, List.getElem_cons_succ, List.getElem_cons_zero, List.setIfInBounds_toArray, List.set_cons_zero, List.set_cons_succ])
              refine wpAnyH_take (i := 18) (v := (.int .i64 (e + 1))) rfl (by kernel_rfl) (by kernel_rfl) (by kernel_rfl) (fun _ _ _ h => h) (Or.inl ⟨by rfl, fun w hSw => by (go_simp)⟩) hHeld ?_
              (try simp only [Act.put, List.getElem_toArray, List.getElem_cons_succ, List.getElem_cons_zero, List.setIfInBounds_toArray, List.set_cons_zero, List.set_cons_succ])
              refine wpAnyH_take (i := 19) (v := (.bool false)) rfl (by kernel_rfl) (by kernel_rfl) (by kernel_rfl) (fun _ _ _ h => h) (Or.inl ⟨by rfl, fun w hSw => by (go_simp)⟩) hHeld ?_
              (try simp only [Act.put, List.getElem_toArray, List.getElem_cons_succ, List.getElem_cons_zero, List.setIfInBounds_toArray, List.set_cons_zero, List.set_cons_succ])
              refine wpAnyH_take (i := 20) (v := (.bool false)) rfl (by kernel_rfl) (by kernel_rfl) (by kernel_rfl) (fun _ _ _ h => h) (Or.inl ⟨by rfl, fun w hSw => by (go_simp)⟩) hHeld ?_
              (try simp only [Act.put, List.getElem_toArray, List.getElem_cons_succ, List.getElem_cons_zero, List.setIfInBounds_toArray, List.set_cons_zero, List.set_cons_succ])
              refine wpAnyH_take (i := 21) (v := (.bool false)) rfl (by kernel_rfl) (by kernel_rfl) (by kernel_rfl) (fun _ _ _ h => h) (Or.inl ⟨by rfl, fun w hSw => by (go_simp)⟩) hHeld ?_
              (try simp only [Act.put, List.getElem_toArray, List.getElem_cons_succ, List.getElem_cons_zero, List.setIfInBounds_toArray, List.set_cons_zero, List.set_cons_succ])
              refine wpAnyH_take (i := 22) (v := undef) rfl (by kernel_rfl) (by kernel_rfl) (by kernel_rfl) (fun _ _ _ h => h) (Or.inr ⟨by rfl, rfl⟩) hHeld ?_
              (try simp only [Act.put, List.getElem_toArray, List.getElem_cons_succ, List.getElem_cons_zero, List.setIfInBounds_toArray, List.set_cons_zero, List.set_cons_succ])
              refine wpAnyH_take (i := 23) (v := undef) rfl (by kernel_rfl) (by kernel_rfl) (by kernel_rfl) (fun _ _ _ h => h) (Or.inr ⟨by rfl, rfl⟩) hHeld ?_
              (try simp only [Act.put, List.getElem_toArray, List.getElem_cons_succ, List.getElem_cons_zero, List.setIfInBounds_toArray, List.set_cons_zero, List.set_cons_succ])
              refine wpAnyH_take (i := 24) (v := undef) rfl (by kernel_rfl) (by kernel_rfl) (by kernel_rfl) (fun _ _ _ h => h) (Or.inr ⟨by rfl, rfl⟩) hHeld ?_
              (try simp only [Act.put, List.getElem_toArray, List.getElem_cons_succ, List.getElem_cons_zero, List.setIfInBounds_toArray, List.set_cons_zero, List.set_cons_succ])
              refine wpAnyH_take (i := 25) (v := undef) rfl (by kernel_rfl) (by kernel_rfl) (by kernel_rfl) (fun _ _ _ h => h) (Or.inr ⟨by rfl, rfl⟩) hHeld ?_
              (try simp only [Act.put, List.getElem_toArray, List.getElem_cons_succ, List.getElem_cons_zero, List.setIfInBounds_toArray, List.set_cons_zero, List.set_cons_succ])
              refine wpAnyH_take (i := 26) (v := (.bool false)) rfl (by kernel_rfl) (by kernel_rfl) (by kernel_rfl) (fun _ _ _ h => h) (Or.inl ⟨by rfl, fun w hSw => by (go_simp)⟩) hHeld ?_
              (try simp only [Act.put, List.getElem_toArray, List.getElem_cons_succ, List.getElem_cons_zero, List.setIfInBounds_toArray, List.set_cons_zero, List.set_cons_succ])
              refine wpAnyH_take (i := 27) (v := (.bool false)) rfl (by kernel_rfl) (by kernel_rfl) (by kernel_rfl) (fun _ _ _ h => h) (Or.inl ⟨by rfl, fun w hSw => by (go_simp)⟩) hHeld ?_
              (try simp only [Act.put, List.getElem_toArray, List.getElem_cons_succ, List.getElem_cons_zero, List.setIfInBounds_toArray, List.set_cons_zero, List.set_cons_succ])
              refine wpAnyH_take (i := 28) (v := (.bool false)) rfl (by kernel_rfl) (by kernel_rfl) (by kernel_rfl) (fun _ _ _ h => h) (Or.inl ⟨by rfl, fun w hSw => by (go_simp)⟩) hHeld ?_
              (try simp only [Act.put, List.getElem_toArray, List.getElem_cons_succ, List.getElem_cons_zero, List.setIfInBounds_toArray, List.set_cons_zero, List.set_cons_succ])
              refine wpAnyH_take (i := 29) (v := (.bool true)) rfl (by kernel_rfl) (by kernel_rfl) (by kernel_rfl) (fun _ _ _ h => h) (Or.inl ⟨by rfl, fun w hSw => by (go_simp)⟩) hHeld ?_
              (try simp only [Act.put, List.getElem_toArray, List.getElem_cons_succ, List.getElem_cons_zero, List.setIfInBounds_toArray, List.set_cons_zero, List.set_cons_succ])
              refine wpAnyH_take (i := 30) (v := (.bool true)) rfl (by kernel_rfl) (by kernel_rfl) (by kernel_rfl) (fun _ _ _ h => h) (Or.inl ⟨by rfl, fun w hSw => by (go_simp)⟩) hHeld ?_
              (try simp only [Act.put, List.getElem_toArray, List.getElem_cons_succ, List.getElem_cons_zero, List.setIfInBounds_toArray, List.set_cons_zero, List.set_cons_succ])
              refine wpAnyH_take (i := 31) (v := (.pointer (some ⟨w13.heap.size, 0, none⟩))) rfl (by kernel_rfl) (by kernel_rfl) (by kernel_rfl) (fun _ _ _ h => h) (Or.inl ⟨by rfl, fun w hSw => by (go_simp)⟩) hHeld ?_
              (try simp only [Act.put, List.getElem_toArray, List.getElem_cons_succ, List.getElem_cons_zero, List.setIfInBounds_toArray, List.set_cons_zero, List.set_cons_succ])
              refine wpAnyH_take (i := 32) (v := (.int .i64 (e + 1))) rfl (by kernel_rfl) (by kernel_rfl) (by kernel_rfl) (fun _ _ _ h => h) (Or.inl ⟨by rfl, fun w hSw => by (obtain ⟨q0, q1, q2, q3⟩ := hSw; go_simp)⟩) hHeld ?_
              (try simp only [Act.put, List.getElem_toArray, List.getElem_cons_succ, List.getElem_cons_zero, List.setIfInBounds_toArray, List.set_cons_zero, List.set_cons_succ])
              refine wpAnyH_take (i := 33) (v := (.int .i64 (e + 1))) rfl (by kernel_rfl) (by kernel_rfl) (by kernel_rfl) (fun _ _ _ h => h) (Or.inl ⟨by rfl, fun w hSw => by (go_simp)⟩) hHeld ?_
              (try simp only [Act.put, List.getElem_toArray, List.getElem_cons_succ, List.getElem_cons_zero, List.setIfInBounds_toArray, List.set_cons_zero, List.set_cons_succ])
              refine wpAnyH_take (i := 34) (v := (.bool true)) rfl (by kernel_rfl) (by kernel_rfl) (by kernel_rfl) (fun _ _ _ h => h) (Or.inl ⟨by rfl, fun w hSw => by (go_simp)⟩) hHeld ?_
              (try simp only [Act.put, List.getElem_toArray, List.getElem_cons_succ, List.getElem_cons_zero, List.setIfInBounds_toArray, List.set_cons_zero, List.set_cons_succ])
              refine wpAnyH_take (i := 35) (v := (.bool true)) rfl (by kernel_rfl) (by kernel_rfl) (by kernel_rfl) (fun _ _ _ h => h) (Or.inl ⟨by rfl, fun w hSw => by (go_simp)⟩) hHeld ?_
              (try simp only [Act.put, List.getElem_toArray, List.getElem_cons_succ, List.getElem_cons_zero, List.setIfInBounds_toArray, List.set_cons_zero, List.set_cons_succ])
              refine wpAnyH_take (i := 36) (v := (.bool true)) rfl (by kernel_rfl) (by kernel_rfl) (by kernel_rfl) (fun _ _ _ h => h) (Or.inl ⟨by rfl, fun w hSw => by (go_simp)⟩) hHeld ?_
              (try simp only [Act.put, List.getElem_toArray, List.getElem_cons_succ, List.getElem_cons_zero, List.setIfInBounds_toArray, List.set_cons_zero, List.set_cons_succ])
              refine wpAnyH_take (i := 37) (v := (rootV (e + 1) (.slice a4 3 c4))) rfl (by kernel_rfl) (by kernel_rfl) (by kernel_rfl) (fun _ _ _ h => h) (Or.inl ⟨by rfl, fun w hSw => by (obtain ⟨q0, q1, q2, q3⟩ := hSw; go_simp)⟩) hHeld ?_
              (try simp only [Act.put, List.getElem_toArray, List.getElem_cons_succ, List.getElem_cons_zero, List.setIfInBounds_toArray, List.set_cons_zero, List.set_cons_succ])
              refine wpAnyH_take (i := 38) (v := (.int .i64 (e + 1))) rfl (by kernel_rfl) (by kernel_rfl) (by kernel_rfl) (fun _ _ _ h => h) (Or.inl ⟨by rfl, fun w hSw => by (go_simp)⟩) hHeld ?_
              (try simp only [Act.put, List.getElem_toArray, List.getElem_cons_succ, List.getElem_cons_zero, List.setIfInBounds_toArray, List.set_cons_zero, List.set_cons_succ])
              refine wpAnyH_ready (rs := [39]) (by kernel_rfl) (by simp) ?_
              refine AllReadyH.cons rfl (fun K hK => ?_) AllReadyH.nil
              go_simp
              go_wp2_with (fail)
              refine hK.out _ _ ?_ (fun hHeld2 => ?_)
              · exact (show _ from ⟨(HA4.out.below ((Below.refl _ _).alloc (Nat.le_refl _) _)).c0, (HA4.out.below ((Below.refl _ _).alloc (Nat.le_refl _) _)).c1, (HS4.out.below ((Below.refl _ _).alloc (Nat.le_refl _) _)).c0, (HS4.out.below ((Below.refl _ _).alloc (Nat.le_refl _) _)).c1⟩)
              clear hHeld hK K
              have hHeld := hHeld2
              clear hHeld2
              (try simp only [Act.put, List.getElem_toArray, List.getElem_cons_succ, List.getElem_cons_zero, List.setIfInBounds_toArray, List.set_cons_zero, List.set_cons_succ])
              refine wpAnyH_ready (rs := [40]) (by kernel_rfl) (by simp) ?_
              refine AllReadyH.cons rfl (fun K hK => ?_) AllReadyH.nil
              go_simp
              go_wp2_with (go_at_call 32; go_loud (refine (made_calls (e + 1) ((rdK_three wz 1 2 3 _).below (Below.refl _ _).drew) (by decide)).mono ?_); go_loud (rintro r w15 ⟨u15, rfl, hO, hb⟩); go_loud (have hbb : Below wz.drew.heap.size wz.drew w15 := (show Below wz.drew.heap.size wz.drew ((wz.alloc (.cells #[.int .i64 1, .int .i64 2, .int .i64 3] 3)).drew) from (Below.refl wz.drew.heap.size wz.drew).alloc (Nat.le_refl _) (.cells #[.int .i64 1, .int .i64 2, .int .i64 3] 3)).trans (hb.mono (show wz.heap.size ≤ (wz.alloc (.cells #[.int .i64 1, .int .i64 2, .int .i64 3] 3)).heap.size by simp))); have HA5 := Lib.hid (HA4.out.below hbb); have HS5 := Lib.hid (HS4.out.below hbb); have HQ5 : Hid (Below w1.heap.size w1 w15) := HQ4.out.trans (hbb.mono HQ4.out.size); have HD5 := Lib.hid (HD4.out.below hbb); have HU := Lib.hid hO.rdK; obtain ⟨a15, c15, rfl⟩ := hO.len; clear hO hb hbb)
              refine hK.out _ _ ?_ (fun hHeld2 => ?_)
              · exact ⟨HA5.out.c0, HA5.out.c1, HS5.out.c0, HS5.out.c1⟩
              clear hHeld hK K
              have hHeld := hHeld2
              clear hHeld2
              (try simp only [Act.put, List.getElem_toArray, List.getElem_cons_succ, List.getElem_cons_zero, List.setIfInBounds_toArray, List.set_cons_zero, List.set_cons_succ])
              refine wpAnyH_ready (rs := [41]) (by kernel_rfl) (by simp) ?_
              refine AllReadyH.cons rfl (fun K hK => ?_) AllReadyH.nil
              go_simp
              go_wp2_with (go_at_call 35; refine (same_calls (e + 1) (e + 1) HS5.out.rd HU.out).mono ?_; rintro r w16 ⟨rfl, hb⟩; have HA6 := Lib.hid (HA5.out.below hb); have HS6 := Lib.hid (HS5.out.below hb); have HQz : Hid (Below w1.heap.size w1 w16) := HQ5.out.trans (hb.mono HQ5.out.size); have HDz := Lib.hid (HD5.out.below hb); rw [show decide ((e + 1) = (e + 1) ∧ ([1, 2, 3] : List Int) = [1, 2, 3]) = true by simp]; clear hb)
              refine hK.out _ _ ?_ (fun hHeld2 => ?_)
              · exact ⟨HA6.out.c0, HA6.out.c1, HS6.out.c0, HS6.out.c1⟩
              clear hHeld hK K
              have hHeld := hHeld2
              clear hHeld2
              (try simp only [Act.put, List.getElem_toArray, List.getElem_cons_succ, List.getElem_cons_zero, List.setIfInBounds_toArray, List.set_cons_zero, List.set_cons_succ])
              refine wpAnyH_take (i := 42) (v := (.bool false)) rfl (by kernel_rfl) (by kernel_rfl) (by kernel_rfl) (fun _ _ _ h => h) (Or.inl ⟨by rfl, fun w hSw => by (go_simp)⟩) hHeld ?_
              (try simp only [Act.put, List.getElem_toArray, List.getElem_cons_succ, List.getElem_cons_zero, List.setIfInBounds_toArray, List.set_cons_zero, List.set_cons_succ])
              refine wpAnyH_take (i := 43) (v := (.bool false)) rfl (by kernel_rfl) (by kernel_rfl) (by kernel_rfl) (fun _ _ _ h => h) (Or.inl ⟨by rfl, fun w hSw => by (go_simp)⟩) hHeld ?_
              (try simp only [Act.put, List.getElem_toArray, List.getElem_cons_succ, List.getElem_cons_zero, List.setIfInBounds_toArray, List.set_cons_zero, List.set_cons_succ])
              refine wpAnyH_take (i := 44) (v := (.bool false)) rfl (by kernel_rfl) (by kernel_rfl) (by kernel_rfl) (fun _ _ _ h => h) (Or.inl ⟨by rfl, fun w hSw => by (go_simp)⟩) hHeld ?_
              (try simp only [Act.put, List.getElem_toArray, List.getElem_cons_succ, List.getElem_cons_zero, List.setIfInBounds_toArray, List.set_cons_zero, List.set_cons_succ])
              refine wpAnyH_done (by kernel_rfl) ?_ _
              have c2 := HS6.out.c0
              have hs16 := HS6.out.lt
              go_wp2_with fail
              refine (made_calls ((e + 1) + 1) (rdK_one .i64 _ 4 _) (by decide)).mono ?_
              rintro r w17 ⟨u17, rfl, hO, hb⟩
              have HY := Lib.hid hO.rdK
              have hbb : Below w16.heap.size w16 w17 := ((Below.refl w16.heap.size w16).alloc (Nat.le_refl _) (.cells #[.int .i64 4] 3)).trans (hb.mono (by simp))
              have HQ9 : Hid (Below w1.heap.size w1 w17) := HQz.out.trans (hbb.mono HQz.out.size)
              have HD9 := Lib.hid (HDz.out.below hbb)
              obtain ⟨a17, c17, rfl⟩ := hO.len
              have hok9 : rootOk ((e + 1) + 1) [4] := ⟨⟨by omega, by omega⟩, by intro z hz; simp at hz; omega, by simp⟩
              have HOK9 := Lib.hid hok9
              have hs17 := HQ9.out.size
              clear hb hbb hO hok9
              go_wp2_with fail
              refine (save_ok HD9.out (by decide) (by decide) (by decide) rfl rfl (by omega) hs17 HY.out HOK9.out).mono ?_
              rintro r w18 ⟨rfl, pb18, hD, hp18, hk⟩
              have HFin := Lib.hid (HX.out _ (HQ9.out.trans (HD9.out.out hk hs17 (fun z hz => hz)))).2.2.2
              clear hD hk
              go_wp2_with fail
              go_ret
              exact ⟨rfl, HFin.out⟩
            · simp only at hs
              rw [hs] at hV ⊢
              rw [decide_eq_false (show ¬ (0 : Int) < e by omega)]
              simp only at hV ⊢
              obtain ⟨a4, c4, rfl, _, _⟩ := hV.len
              obtain ⟨wz, hwz⟩ : ∃ wz, wz = w13.alloc (.cells #[.int .i64 e, .slice a4 0 c4] 48) := ⟨_, rfl⟩
              have HS4 : Hid (RootAt 0 wz w13.heap.size e (.slice a4 0 c4) (([] : List Int))) := by rw [hwz]; exact RootAt.new _ hV (fun _ _ => Nat.zero_le _) (Nat.zero_le _)
              have hbz : Below w13.heap.size w13 wz.drew := by rw [hwz]; exact ((Below.refl _ _).alloc (Nat.le_refl _) _).drew
              have hbz2 : Below wz.heap.size wz wz.drew := (Below.refl _ _).drew
              have HA4 := Lib.hid (HA.out.below hbz)
              have HQ4 : Hid (Below w1.heap.size w1 wz.drew) := HQ.out.trans (hbz.mono HQ.out.size)
              have HD4 := Lib.hid (HD.out.below hbz)
              replace HS4 := Lib.hid (HS4.out.below hbz2)
              have HWZ := Lib.hid hwz
              clear hbz hbz2 hwz hV hs c0 c1
              go_wp2_with fail
              rw [← HWZ.out]
              have HKa := And.intro HA4.out.c0 (And.intro HA4.out.c1 (And.intro HS4.out.c0 HS4.out.c1))
              have hwr : IntKind.i64.wrap (e + 1) = e + 1 := IntWalk.i64_in _ (by omega)
              have hn1 : (e != e + 1) = true := by rw [bne_iff_ne]; omega
              have hn2 : (e == e + 1) = false := by rw [beq_eq_false_iff_ne]; omega
              refine wp_region_held_drew (S := (fun wq => wq.cell? ⟨wf.heap.size, 0, none⟩ = some (.int .i64 e) ∧ wq.cell? ⟨wf.heap.size, 1, none⟩ = some (.slice av 0 cv) ∧ wq.cell? ⟨w13.heap.size, 0, none⟩ = some (.int .i64 e) ∧ wq.cell? ⟨w13.heap.size, 1, none⟩ = some (.slice a4 0 c4))) (by kernel_rfl) HKa (fun hHeld => ?_)
              refine wpAnyH_take (i := 0) (v := (.nilIface)) rfl (by kernel_rfl) (by kernel_rfl) (by kernel_rfl) (fun _ _ _ h => h) (Or.inl ⟨by rfl, fun w hSw => by (go_simp)⟩) hHeld ?_
              (try simp only [Act.put, List.getElem_toArray, List.getElem_cons_succ, List.getElem_cons_zero, List.setIfInBounds_toArray, List.set_cons_zero, List.set_cons_succ])
              refine wpAnyH_take (i := 1) (v := (.bool false)) rfl (by kernel_rfl) (by kernel_rfl) (by kernel_rfl) (fun _ _ _ h => h) (Or.inl ⟨by rfl, fun w hSw => by (go_simp)⟩) hHeld ?_
              (try simp only [Act.put, List.getElem_toArray, List.getElem_cons_succ, List.getElem_cons_zero, List.setIfInBounds_toArray, List.set_cons_zero, List.set_cons_succ])
              refine wpAnyH_take (i := 2) (v := (.bool false)) rfl (by kernel_rfl) (by kernel_rfl) (by kernel_rfl) (fun _ _ _ h => h) (Or.inl ⟨by rfl, fun w hSw => by (go_simp)⟩) hHeld ?_
              (try simp only [Act.put, List.getElem_toArray, List.getElem_cons_succ, List.getElem_cons_zero, List.setIfInBounds_toArray, List.set_cons_zero, List.set_cons_succ])
              refine wpAnyH_take (i := 3) (v := (.bool false)) rfl (by kernel_rfl) (by kernel_rfl) (by kernel_rfl) (fun _ _ _ h => h) (Or.inl ⟨by rfl, fun w hSw => by (go_simp)⟩) hHeld ?_
              (try simp only [Act.put, List.getElem_toArray, List.getElem_cons_succ, List.getElem_cons_zero, List.setIfInBounds_toArray, List.set_cons_zero, List.set_cons_succ])
              refine wpAnyH_take (i := 4) (v := (.bool false)) rfl (by kernel_rfl) (by kernel_rfl) (by kernel_rfl) (fun _ _ _ h => h) (Or.inl ⟨by rfl, fun w hSw => by (go_simp)⟩) hHeld ?_
              (try simp only [Act.put, List.getElem_toArray, List.getElem_cons_succ, List.getElem_cons_zero, List.setIfInBounds_toArray, List.set_cons_zero, List.set_cons_succ])
              refine wpAnyH_take (i := 5) (v := (.bool false)) rfl (by kernel_rfl) (by kernel_rfl) (by kernel_rfl) (fun _ _ _ h => h) (Or.inl ⟨by rfl, fun w hSw => by (go_simp)⟩) hHeld ?_
              (try simp only [Act.put, List.getElem_toArray, List.getElem_cons_succ, List.getElem_cons_zero, List.setIfInBounds_toArray, List.set_cons_zero, List.set_cons_succ])
              refine wpAnyH_take (i := 6) (v := (.pointer (some ⟨w13.heap.size, 0, none⟩))) rfl (by kernel_rfl) (by kernel_rfl) (by kernel_rfl) (fun _ _ _ h => h) (Or.inl ⟨by rfl, fun w hSw => by (go_simp)⟩) hHeld ?_
              (try simp only [Act.put, List.getElem_toArray, List.getElem_cons_succ, List.getElem_cons_zero, List.setIfInBounds_toArray, List.set_cons_zero, List.set_cons_succ])
              refine wpAnyH_take (i := 7) (v := (.int .i64 e)) rfl (by kernel_rfl) (by kernel_rfl) (by kernel_rfl) (fun _ _ _ h => h) (Or.inl ⟨by rfl, fun w hSw => by (obtain ⟨q0, q1, q2, q3⟩ := hSw; go_simp)⟩) hHeld ?_
              (try simp only [Act.put, List.getElem_toArray, List.getElem_cons_succ, List.getElem_cons_zero, List.setIfInBounds_toArray, List.set_cons_zero, List.set_cons_succ])
              refine wpAnyH_take (i := 8) (v := (.int .i64 (e + 1))) rfl (by kernel_rfl) (by kernel_rfl) (by kernel_rfl) (fun _ _ _ h => h) (Or.inl ⟨by rfl, fun w hSw => by (go_simp)⟩) hHeld ?_
              (try simp only [Act.put, List.getElem_toArray, List.getElem_cons_succ, List.getElem_cons_zero, List.setIfInBounds_toArray, List.set_cons_zero, List.set_cons_succ])
              refine wpAnyH_take (i := 9) (v := (.bool false)) rfl (by kernel_rfl) (by kernel_rfl) (by kernel_rfl) (fun _ _ _ h => h) (Or.inl ⟨by rfl, fun w hSw => by (go_simp)⟩) hHeld ?_
              (try simp only [Act.put, List.getElem_toArray, List.getElem_cons_succ, List.getElem_cons_zero, List.setIfInBounds_toArray, List.set_cons_zero, List.set_cons_succ])
              refine wpAnyH_take (i := 10) (v := (.bool false)) rfl (by kernel_rfl) (by kernel_rfl) (by kernel_rfl) (fun _ _ _ h => h) (Or.inl ⟨by rfl, fun w hSw => by (go_simp)⟩) hHeld ?_
              (try simp only [Act.put, List.getElem_toArray, List.getElem_cons_succ, List.getElem_cons_zero, List.setIfInBounds_toArray, List.set_cons_zero, List.set_cons_succ])
              refine wpAnyH_take (i := 11) (v := (.bool false)) rfl (by kernel_rfl) (by kernel_rfl) (by kernel_rfl) (fun _ _ _ h => h) (Or.inl ⟨by rfl, fun w hSw => by (go_simp)⟩) hHeld ?_
              (try simp only [Act.put, List.getElem_toArray, List.getElem_cons_succ, List.getElem_cons_zero, List.setIfInBounds_toArray, List.set_cons_zero, List.set_cons_succ])
              refine wpAnyH_take (i := 12) (v := (.bool false)) rfl (by kernel_rfl) (by kernel_rfl) (by kernel_rfl) (fun _ _ _ h => h) (Or.inl ⟨by rfl, fun w hSw => by (go_simp)⟩) hHeld ?_
              (try simp only [Act.put, List.getElem_toArray, List.getElem_cons_succ, List.getElem_cons_zero, List.setIfInBounds_toArray, List.set_cons_zero, List.set_cons_succ])
              refine wpAnyH_take (i := 13) (v := (.bool false)) rfl (by kernel_rfl) (by kernel_rfl) (by kernel_rfl) (fun _ _ _ h => h) (Or.inl ⟨by rfl, fun w hSw => by (go_simp)⟩) hHeld ?_
              (try simp only [Act.put, List.getElem_toArray, List.getElem_cons_succ, List.getElem_cons_zero, List.setIfInBounds_toArray, List.set_cons_zero, List.set_cons_succ])
              refine wpAnyH_take (i := 14) (v := (.bool false)) rfl (by kernel_rfl) (by kernel_rfl) (by kernel_rfl) (fun _ _ _ h => h) (Or.inl ⟨by rfl, fun w hSw => by (go_simp)⟩) hHeld ?_
              (try simp only [Act.put, List.getElem_toArray, List.getElem_cons_succ, List.getElem_cons_zero, List.setIfInBounds_toArray, List.set_cons_zero, List.set_cons_succ])
              refine wpAnyH_take (i := 15) (v := (.bool false)) rfl (by kernel_rfl) (by kernel_rfl) (by kernel_rfl) (fun _ _ _ h => h) (Or.inl ⟨by rfl, fun w hSw => by (go_simp)⟩) hHeld ?_
              (try simp only [Act.put, List.getElem_toArray, List.getElem_cons_succ, List.getElem_cons_zero, List.setIfInBounds_toArray, List.set_cons_zero, List.set_cons_succ])
              refine wpAnyH_take (i := 16) (v := undef) rfl (by kernel_rfl) (by kernel_rfl) (by kernel_rfl) (fun _ _ _ h => h) (Or.inr ⟨by rfl, rfl⟩) hHeld ?_
              (try simp only [Act.put, List.getElem_toArray, List.getElem_cons_succ, List.getElem_cons_zero, List.setIfInBounds_toArray, List.set_cons_zero, List.set_cons_succ])
              refine wpAnyH_take (i := 17) (v := undef) rfl (by kernel_rfl) (by kernel_rfl) (by kernel_rfl) (fun _ _ _ h => h) (Or.inr ⟨by rfl, rfl⟩) hHeld ?_
              (try simp only [Act.put, List.getElem_toArray, List.getElem_cons_succ, List.getElem_cons_zero, List.setIfInBounds_toArray, List.set_cons_zero, List.set_cons_succ])
              refine wpAnyH_take (i := 18) (v := undef) rfl (by kernel_rfl) (by kernel_rfl) (by kernel_rfl) (fun _ _ _ h => h) (Or.inr ⟨by rfl, rfl⟩) hHeld ?_
              (try simp only [Act.put, List.getElem_toArray, List.getElem_cons_succ, List.getElem_cons_zero, List.setIfInBounds_toArray, List.set_cons_zero, List.set_cons_succ])
              refine wpAnyH_take (i := 19) (v := undef) rfl (by kernel_rfl) (by kernel_rfl) (by kernel_rfl) (fun _ _ _ h => h) (Or.inr ⟨by rfl, rfl⟩) hHeld ?_
              (try simp only [Act.put, List.getElem_toArray, List.getElem_cons_succ, List.getElem_cons_zero, List.setIfInBounds_toArray, List.set_cons_zero, List.set_cons_succ])
              refine wpAnyH_take (i := 20) (v := (.bool false)) rfl (by kernel_rfl) (by kernel_rfl) (by kernel_rfl) (fun _ _ _ h => h) (Or.inl ⟨by rfl, fun w hSw => by (go_simp)⟩) hHeld ?_
              (try simp only [Act.put, List.getElem_toArray, List.getElem_cons_succ, List.getElem_cons_zero, List.setIfInBounds_toArray, List.set_cons_zero, List.set_cons_succ])
              refine wpAnyH_take (i := 21) (v := (.bool false)) rfl (by kernel_rfl) (by kernel_rfl) (by kernel_rfl) (fun _ _ _ h => h) (Or.inl ⟨by rfl, fun w hSw => by (go_simp)⟩) hHeld ?_
              (try simp only [Act.put, List.getElem_toArray, List.getElem_cons_succ, List.getElem_cons_zero, List.setIfInBounds_toArray, List.set_cons_zero, List.set_cons_succ])
              refine wpAnyH_take (i := 22) (v := undef) rfl (by kernel_rfl) (by kernel_rfl) (by kernel_rfl) (fun _ _ _ h => h) (Or.inr ⟨by rfl, rfl⟩) hHeld ?_
              (try simp only [Act.put, List.getElem_toArray, List.getElem_cons_succ, List.getElem_cons_zero, List.setIfInBounds_toArray, List.set_cons_zero, List.set_cons_succ])
              refine wpAnyH_take (i := 23) (v := undef) rfl (by kernel_rfl) (by kernel_rfl) (by kernel_rfl) (fun _ _ _ h => h) (Or.inr ⟨by rfl, rfl⟩) hHeld ?_
              (try simp only [Act.put, List.getElem_toArray, List.getElem_cons_succ, List.getElem_cons_zero, List.setIfInBounds_toArray, List.set_cons_zero, List.set_cons_succ])
              refine wpAnyH_take (i := 24) (v := undef) rfl (by kernel_rfl) (by kernel_rfl) (by kernel_rfl) (fun _ _ _ h => h) (Or.inr ⟨by rfl, rfl⟩) hHeld ?_
              (try simp only [Act.put, List.getElem_toArray, List.getElem_cons_succ, List.getElem_cons_zero, List.setIfInBounds_toArray, List.set_cons_zero, List.set_cons_succ])
              refine wpAnyH_take (i := 25) (v := undef) rfl (by kernel_rfl) (by kernel_rfl) (by kernel_rfl) (fun _ _ _ h => h) (Or.inr ⟨by rfl, rfl⟩) hHeld ?_
              (try simp only [Act.put, List.getElem_toArray, List.getElem_cons_succ, List.getElem_cons_zero, List.setIfInBounds_toArray, List.set_cons_zero, List.set_cons_succ])
              refine wpAnyH_take (i := 26) (v := (.bool false)) rfl (by kernel_rfl) (by kernel_rfl) (by kernel_rfl) (fun _ _ _ h => h) (Or.inl ⟨by rfl, fun w hSw => by (go_simp)⟩) hHeld ?_
              (try simp only [Act.put, List.getElem_toArray, List.getElem_cons_succ, List.getElem_cons_zero, List.setIfInBounds_toArray, List.set_cons_zero, List.set_cons_succ])
              refine wpAnyH_take (i := 27) (v := (.bool false)) rfl (by kernel_rfl) (by kernel_rfl) (by kernel_rfl) (fun _ _ _ h => h) (Or.inl ⟨by rfl, fun w hSw => by (go_simp)⟩) hHeld ?_
              (try simp only [Act.put, List.getElem_toArray, List.getElem_cons_succ, List.getElem_cons_zero, List.setIfInBounds_toArray, List.set_cons_zero, List.set_cons_succ])
              refine wpAnyH_take (i := 28) (v := (.bool false)) rfl (by kernel_rfl) (by kernel_rfl) (by kernel_rfl) (fun _ _ _ h => h) (Or.inl ⟨by rfl, fun w hSw => by (go_simp)⟩) hHeld ?_
              (try simp only [Act.put, List.getElem_toArray, List.getElem_cons_succ, List.getElem_cons_zero, List.setIfInBounds_toArray, List.set_cons_zero, List.set_cons_succ])
              refine wpAnyH_take (i := 29) (v := (.bool false)) rfl (by kernel_rfl) (by kernel_rfl) (by kernel_rfl) (fun _ _ _ h => h) (Or.inl ⟨by rfl, fun w hSw => by (go_simp)⟩) hHeld ?_
              (try simp only [Act.put, List.getElem_toArray, List.getElem_cons_succ, List.getElem_cons_zero, List.setIfInBounds_toArray, List.set_cons_zero, List.set_cons_succ])
              refine wpAnyH_take (i := 30) (v := (.bool false)) rfl (by kernel_rfl) (by kernel_rfl) (by kernel_rfl) (fun _ _ _ h => h) (Or.inl ⟨by rfl, fun w hSw => by (go_simp)⟩) hHeld ?_
              (try simp only [Act.put, List.getElem_toArray, List.getElem_cons_succ, List.getElem_cons_zero, List.setIfInBounds_toArray, List.set_cons_zero, List.set_cons_succ])
              refine wpAnyH_take (i := 31) (v := undef) rfl (by kernel_rfl) (by kernel_rfl) (by kernel_rfl) (fun _ _ _ h => h) (Or.inr ⟨by rfl, rfl⟩) hHeld ?_
              (try simp only [Act.put, List.getElem_toArray, List.getElem_cons_succ, List.getElem_cons_zero, List.setIfInBounds_toArray, List.set_cons_zero, List.set_cons_succ])
              refine wpAnyH_take (i := 32) (v := undef) rfl (by kernel_rfl) (by kernel_rfl) (by kernel_rfl) (fun _ _ _ h => h) (Or.inr ⟨by rfl, rfl⟩) hHeld ?_
              (try simp only [Act.put, List.getElem_toArray, List.getElem_cons_succ, List.getElem_cons_zero, List.setIfInBounds_toArray, List.set_cons_zero, List.set_cons_succ])
              refine wpAnyH_take (i := 33) (v := undef) rfl (by kernel_rfl) (by kernel_rfl) (by kernel_rfl) (fun _ _ _ h => h) (Or.inr ⟨by rfl, rfl⟩) hHeld ?_
              (try simp only [Act.put, List.getElem_toArray, List.getElem_cons_succ, List.getElem_cons_zero, List.setIfInBounds_toArray, List.set_cons_zero, List.set_cons_succ])
              refine wpAnyH_take (i := 34) (v := undef) rfl (by kernel_rfl) (by kernel_rfl) (by kernel_rfl) (fun _ _ _ h => h) (Or.inr ⟨by rfl, rfl⟩) hHeld ?_
              (try simp only [Act.put, List.getElem_toArray, List.getElem_cons_succ, List.getElem_cons_zero, List.setIfInBounds_toArray, List.set_cons_zero, List.set_cons_succ])
              refine wpAnyH_take (i := 35) (v := (.bool false)) rfl (by kernel_rfl) (by kernel_rfl) (by kernel_rfl) (fun _ _ _ h => h) (Or.inl ⟨by rfl, fun w hSw => by (go_simp)⟩) hHeld ?_
              (try simp only [Act.put, List.getElem_toArray, List.getElem_cons_succ, List.getElem_cons_zero, List.setIfInBounds_toArray, List.set_cons_zero, List.set_cons_succ])
              refine wpAnyH_take (i := 36) (v := (.bool false)) rfl (by kernel_rfl) (by kernel_rfl) (by kernel_rfl) (fun _ _ _ h => h) (Or.inl ⟨by rfl, fun w hSw => by (go_simp)⟩) hHeld ?_
              (try simp only [Act.put, List.getElem_toArray, List.getElem_cons_succ, List.getElem_cons_zero, List.setIfInBounds_toArray, List.set_cons_zero, List.set_cons_succ])
              refine wpAnyH_take (i := 37) (v := undef) rfl (by kernel_rfl) (by kernel_rfl) (by kernel_rfl) (fun _ _ _ h => h) (Or.inr ⟨by rfl, rfl⟩) hHeld ?_
              (try simp only [Act.put, List.getElem_toArray, List.getElem_cons_succ, List.getElem_cons_zero, List.setIfInBounds_toArray, List.set_cons_zero, List.set_cons_succ])
              refine wpAnyH_take (i := 38) (v := undef) rfl (by kernel_rfl) (by kernel_rfl) (by kernel_rfl) (fun _ _ _ h => h) (Or.inr ⟨by rfl, rfl⟩) hHeld ?_
              (try simp only [Act.put, List.getElem_toArray, List.getElem_cons_succ, List.getElem_cons_zero, List.setIfInBounds_toArray, List.set_cons_zero, List.set_cons_succ])
              refine wpAnyH_take (i := 39) (v := undef) rfl (by kernel_rfl) (by kernel_rfl) (by kernel_rfl) (fun _ _ _ h => h) (Or.inr ⟨by rfl, rfl⟩) hHeld ?_
              (try simp only [Act.put, List.getElem_toArray, List.getElem_cons_succ, List.getElem_cons_zero, List.setIfInBounds_toArray, List.set_cons_zero, List.set_cons_succ])
              refine wpAnyH_take (i := 40) (v := undef) rfl (by kernel_rfl) (by kernel_rfl) (by kernel_rfl) (fun _ _ _ h => h) (Or.inr ⟨by rfl, rfl⟩) hHeld ?_
              (try simp only [Act.put, List.getElem_toArray, List.getElem_cons_succ, List.getElem_cons_zero, List.setIfInBounds_toArray, List.set_cons_zero, List.set_cons_succ])
              refine wpAnyH_take (i := 41) (v := undef) rfl (by kernel_rfl) (by kernel_rfl) (by kernel_rfl) (fun _ _ _ h => h) (Or.inr ⟨by rfl, rfl⟩) hHeld ?_
              (try simp only [Act.put, List.getElem_toArray, List.getElem_cons_succ, List.getElem_cons_zero, List.setIfInBounds_toArray, List.set_cons_zero, List.set_cons_succ])
              refine wpAnyH_take (i := 42) (v := undef) rfl (by kernel_rfl) (by kernel_rfl) (by kernel_rfl) (fun _ _ _ h => h) (Or.inr ⟨by rfl, rfl⟩) hHeld ?_
              (try simp only [Act.put, List.getElem_toArray, List.getElem_cons_succ, List.getElem_cons_zero, List.setIfInBounds_toArray, List.set_cons_zero, List.set_cons_succ])
              refine wpAnyH_take (i := 43) (v := (.bool false)) rfl (by kernel_rfl) (by kernel_rfl) (by kernel_rfl) (fun _ _ _ h => h) (Or.inl ⟨by rfl, fun w hSw => by (go_simp)⟩) hHeld ?_
              (try simp only [Act.put, List.getElem_toArray, List.getElem_cons_succ, List.getElem_cons_zero, List.setIfInBounds_toArray, List.set_cons_zero, List.set_cons_succ])
              refine wpAnyH_take (i := 44) (v := (.bool false)) rfl (by kernel_rfl) (by kernel_rfl) (by kernel_rfl) (fun _ _ _ h => h) (Or.inl ⟨by rfl, fun w hSw => by (go_simp)⟩) hHeld ?_
              (try simp only [Act.put, List.getElem_toArray, List.getElem_cons_succ, List.getElem_cons_zero, List.setIfInBounds_toArray, List.set_cons_zero, List.set_cons_succ])
              refine wpAnyH_done (by kernel_rfl) ?_ _
              obtain ⟨wv, hwv⟩ : ∃ wv, wv = wz.drew := ⟨_, rfl⟩
              rw [← hwv] at HA4 HQ4 HD4 HS4 ⊢
              clear hwv HKa hHeld
              have HQz := HQ4
              have HDz := HD4
              have c2 := HS4.out.c0
              have hs16 := HS4.out.lt
              go_wp2_with fail
              refine (made_calls (e + 1) (rdK_one .i64 _ 4 _) (by decide)).mono ?_
              rintro r w17 ⟨u17, rfl, hO, hb⟩
              have HY := Lib.hid hO.rdK
              have hbb : Below wv.heap.size wv w17 := ((Below.refl wv.heap.size wv).alloc (Nat.le_refl _) (.cells #[.int .i64 4] 3)).trans (hb.mono (by simp))
              have HQ9 : Hid (Below w1.heap.size w1 w17) := HQz.out.trans (hbb.mono HQz.out.size)
              have HD9 := Lib.hid (HDz.out.below hbb)
              obtain ⟨a17, c17, rfl⟩ := hO.len
              have hok9 : rootOk (e + 1) [4] := ⟨⟨by omega, by omega⟩, by intro z hz; simp at hz; omega, by simp⟩
              have HOK9 := Lib.hid hok9
              have hs17 := HQ9.out.size
              clear hb hbb hO hok9
              go_wp2_with fail
              refine (save_ok HD9.out (by decide) (by decide) (by decide) rfl rfl (by omega) hs17 HY.out HOK9.out).mono ?_
              rintro r w18 ⟨rfl, pb18, hD, hp18, hk⟩
              have HFin := Lib.hid (HX.out _ (HQ9.out.trans (HD9.out.out hk hs17 (fun z hz => hz)))).2.2.2
              clear hD hk
              go_wp2_with fail
              go_ret
              exact ⟨rfl, HFin.out⟩
end Go.Proofs.YtehacchacgfjlaaDoor
