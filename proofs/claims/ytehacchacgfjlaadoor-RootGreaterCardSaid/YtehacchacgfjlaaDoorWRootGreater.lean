/- The walk of pledgelaw6.RootGreater: it returns true, and writes nothing that was there. REACH -/
import Derived.Test.YtehacchacgfjlaaDoorRoot7
import Derived.Deep.DeepCutAuto
import Derived.Deep.CutBlock
import Derived.Deep.CutRange
namespace Go.Proofs.YtehacchacgfjlaaDoor
open Go.Maps
open Go Go.RowKit
set_option linter.unusedSimpArgs false
set_option linter.unusedVariables false

theorem IsRow.list8 {w : World} {a : Option Addr} {len cap : Nat} {zs : List Int} (h : IsRow .i64 w a len cap zs) :
    ∃ qs, RdK .i64 w (.slice a len cap) qs ∧ qs.length = len := by
  refine ⟨zs.take len, h.rdK, ?_⟩
  rcases h with ⟨_, h0, _⟩ | ⟨x, _, h1, _, h3, _⟩
  · rw [h0]; rfl
  · rw [List.length_take]; omega
/-- The sectors behind the saves. -/
def twoF (a b : Int) (l m : List Int) : Int → List Int := rdS (rdS zeroS (mput [] (secE a) (rootL a l))) (mput [] (secE b) (rootL b m))
def threeF (a b : Int) (l m : List Int) : Int → List Int := rdS (twoF a b l m) (mput [] 3 (rootL 1099511627776 []))
theorem twoF_at (a b : Int) (l m : List Int) (i : Int) : twoF a b l m i = if i = secE b then rootL b m else if i = secE a then rootL a l else zeroS i := by
  unfold twoF
  rw [rdS_put, rdS_nil, rdS_put, rdS_nil]
theorem threeF_at (a b : Int) (l m : List Int) (i : Int) : threeF a b l m i = if i = 3 then rootL 1099511627776 [] else twoF a b l m i := by
  unfold threeF
  rw [rdS_put, rdS_nil]
theorem zeroS_bytes (i : Int) : isBytes (zeroS i) := by
  unfold zeroS; intro x hx; rw [List.eq_of_mem_replicate hx]; decide
theorem threeF_bytes {a b : Int} {l m : List Int} (hl : l.length ≤ 40) (hm : m.length ≤ 40) (i : Int) : isBytes (threeF a b l m i) := by
  rw [threeF_at, twoF_at]
  split
  · exact rootL_bytes _ _ (by decide)
  · split
    · exact rootL_bytes _ _ (by omega)
    · split
      · exact rootL_bytes _ _ (by omega)
      · exact zeroS_bytes i
/-- The greater one is loaded. -/
theorem greater {a b : Int} {l m : List Int} (ha : rootOk a l) (hb : rootOk b m) (hne : secE a ≠ secE b) : loadL (threeF a b l m) = if a < b then (b, m) else (a, l) := by
  have h1 := secE_range a
  have h2 := secE_range b
  have ha0 := ha.1.1
  have hb0 := hb.1.1
  have hab : a ≠ b := fun e => hne (by rw [e])
  unfold loadL
  rw [show threeF a b l m 0 = if (0 : Int) = secE b then rootL b m else if (0 : Int) = secE a then rootL a l else zeroS 0 by rw [threeF_at, if_neg (show ¬ (0 : Int) = 3 by decide), twoF_at], show threeF a b l m 1 = if (1 : Int) = secE b then rootL b m else if (1 : Int) = secE a then rootL a l else zeroS 1 by rw [threeF_at, if_neg (show ¬ (1 : Int) = 3 by decide), twoF_at]]
  by_cases h : secE a = 0
  · have hb1 : secE b = 1 := by omega
    rw [if_neg (show ¬ (0 : Int) = secE b by omega), if_pos (show (0 : Int) = secE a by omega), if_pos (show (1 : Int) = secE b by omega), readL_rootL a l ha, readL_rootL b m hb]
    unfold bestOf
    simp only
    rw [if_pos (show (0 : Int) < a by omega)]
  · have ha1 : secE a = 1 := by omega
    have hb1 : secE b = 0 := by omega
    rw [if_pos (show (0 : Int) = secE b by omega), if_neg (show ¬ (1 : Int) = secE b by omega), if_pos (show (1 : Int) = secE a by omega), readL_rootL a l ha, readL_rootL b m hb]
    unfold bestOf
    simp only
    rw [if_pos (show (0 : Int) < b by omega)]
    by_cases hlt : a < b
    · rw [if_neg (by omega), if_pos hlt]
    · rw [if_pos (by omega), if_neg hlt]
set_option maxHeartbeats 8000000 in
set_option maxRecDepth 100000 in
theorem walk_RootGreater {p : Nat → Addr} {w : World} (hE : Errs (List.range 21) w.heap.size p w) (a b : Int) (la : Option Addr) (llen lcap : Nat) (lz : List Int) (ma : Option Addr) (mlen mcap : Nat) (mz : List Int) (h1 : -9223372036854775808 ≤ a) (h2 : a ≤ 9223372036854775807) (h3 : -9223372036854775808 ≤ b) (h4 : b ≤ 9223372036854775807) (hl : IsRow .i64 w la llen lcap lz) (sl : llen * 8 ≤ 140737488351232) (hm : IsRow .i64 w ma mlen mcap mz) (sm : mlen * 8 ≤ 140737488351232) :
    Calls Tryd.prog 10 #[.int .i64 a, .int .i64 b, .slice la llen lcap, .slice ma mlen mcap] w fun r w' => r = .returned (.bool true) ∧ Below w.heap.size w w' := by
  obtain ⟨l, l1, l2⟩ := hl.list8
  obtain ⟨m, m1, m2⟩ := hm.list8
  subst l2 m2
  have HE := Lib.hid hE
  have HL := Lib.hid l1
  have HM := Lib.hid m1
  clear l1 m1 hl hm hE
  go_enter Tryd.func10, Tryd.ntmps10
  go_wp2_with fail
  refine (first6_calls HE.out (by decide) (by decide)).mono ?_
  rintro r w1 ⟨rfl, hb⟩
  have HB : Hid (Below w.heap.size w w1) := hb
  clear hb
  go_wp2_with fail
  refine (made_calls a (HL.out.below HB.out) sl).mono ?_
  rintro r w2 ⟨u2, rfl, hO, hb⟩
  have HX := Lib.hid hO.rdK
  replace HB : Hid (Below w.heap.size w w2) := HB.out.trans (hb.mono HB.out.size)
  obtain ⟨a2, c2, rfl⟩ := hO.len
  clear hO hb
  obtain ⟨wx, hwx⟩ : ∃ wx, wx = w2.alloc (.cells #[.int .i64 a, .slice a2 l.length c2] 48) := ⟨_, rfl⟩
  have hbx : Below w2.heap.size w2 wx := by rw [hwx]; (repeat (first | exact Below.refl _ _ | assumption | refine Below.drew ?_ | refine below_many ?_ _ | refine Below.alloc ?_ (by first | (simp; done) | (simp; omega) | omega) _ | refine Below.setCell ?_ (by first | (simp; done) | (simp; omega) | omega) _))
  have x0 : wx.cell? ⟨w2.heap.size, 0, none⟩ = some (.int .i64 a) := by rw [hwx]; exact cell_new w2 _ _ 0
  have x1 : wx.cell? ⟨w2.heap.size, 1, none⟩ = some (.slice a2 l.length c2) := by rw [hwx]; exact cell_new w2 _ _ 1
  have hxs : w2.heap.size < wx.heap.size := by rw [hwx]; simp
  have HXs : Hid (w2.heap.size < wx.heap.size) := hxs
  replace HX := Lib.hid (HX.out.below hbx)
  replace HB : Hid (Below w.heap.size w wx) := HB.out.trans (hbx.mono HB.out.size)
  have HWX := Lib.hid hwx
  have HX0 := Lib.hid x0
  have HX1 := Lib.hid x1
  clear hwx hbx x0 x1
  go_wp2_with fail
  rw [← HWX.out]
  refine (made_calls b (HM.out.below HB.out) sm).mono ?_
  rintro r w3 ⟨u3, rfl, hO, hb⟩
  have HY := Lib.hid hO.rdK
  replace HX := Lib.hid (HX.out.below hb)
  have x0 := (hb.cell (p := ⟨w2.heap.size, 0, none⟩) hxs).trans HX0.out
  have x1 := (hb.cell (p := ⟨w2.heap.size, 1, none⟩) hxs).trans HX1.out
  replace HB : Hid (Below w.heap.size w w3) := HB.out.trans (hb.mono HB.out.size)
  have hx3 : w2.heap.size < w3.heap.size := Nat.lt_of_lt_of_le hxs hb.size
  obtain ⟨a3, c3, rfl⟩ := hO.len
  clear hO hb
  obtain ⟨wy, hwy⟩ : ∃ wy, wy = w3.alloc (.cells #[.int .i64 b, .slice a3 m.length c3] 48) := ⟨_, rfl⟩
  have hby : Below w3.heap.size w3 wy := by rw [hwy]; (repeat (first | exact Below.refl _ _ | assumption | refine Below.drew ?_ | refine below_many ?_ _ | refine Below.alloc ?_ (by first | (simp; done) | (simp; omega) | omega) _ | refine Below.setCell ?_ (by first | (simp; done) | (simp; omega) | omega) _))
  have y0 : wy.cell? ⟨w3.heap.size, 0, none⟩ = some (.int .i64 b) := by rw [hwy]; exact cell_new w3 _ _ 0
  have y1 : wy.cell? ⟨w3.heap.size, 1, none⟩ = some (.slice a3 m.length c3) := by rw [hwy]; exact cell_new w3 _ _ 1
  have q0 := (hby.cell (p := ⟨w2.heap.size, 0, none⟩) hx3).trans x0
  have q1 := (hby.cell (p := ⟨w2.heap.size, 1, none⟩) hx3).trans x1
  have hys : w3.heap.size < wy.heap.size := by rw [hwy]; simp
  replace HX := Lib.hid (HX.out.below hby)
  replace HY := Lib.hid (HY.out.below hby)
  replace HB : Hid (Below w.heap.size w wy) := HB.out.trans (hby.mono HB.out.size)
  have HWY := Lib.hid hwy
  -- what x, y, and their lists are, in whatever world from here on
  have HXY : Hid (∀ wq, Below wy.heap.size wy wq → (wq.cell? ⟨w2.heap.size, 0, none⟩ = some (.int .i64 a) ∧ wq.cell? ⟨w2.heap.size, 1, none⟩ = some (.slice a2 l.length c2)) ∧ (wq.cell? ⟨w3.heap.size, 0, none⟩ = some (.int .i64 b) ∧ wq.cell? ⟨w3.heap.size, 1, none⟩ = some (.slice a3 m.length c3)) ∧ RdK .i64 wq (.slice a2 l.length c2) l ∧ RdK .i64 wq (.slice a3 m.length c3) m ∧ Below w.heap.size w wq) := fun wq hq => by
    have hx4 : w2.heap.size < wy.heap.size := by omega
    exact ⟨⟨(hq.cell (p := ⟨w2.heap.size, 0, none⟩) hx4).trans q0, (hq.cell (p := ⟨w2.heap.size, 1, none⟩) hx4).trans q1⟩, ⟨(hq.cell (p := ⟨w3.heap.size, 0, none⟩) hys).trans y0, (hq.cell (p := ⟨w3.heap.size, 1, none⟩) hys).trans y1⟩, HX.out.below hq, HY.out.below hq, HB.out.trans (hq.mono HB.out.size)⟩
  have HQ : Hid (Below wy.heap.size wy wy) := Below.refl _ _
  have hwwy := HB.out.size
  clear hwy hby y0 y1 HX HY HB HX0 HX1
  go_wp2_with fail
  rw [← HWY.out]
  clear x0 x1
  by_cases hok1 : rootOk a l
  · skip
    obtain ⟨⟨z0, z1⟩, ⟨z2, z3⟩, hvx, hvy, hbw⟩ := HXY.out wy HQ.out
    have HVX := Lib.hid hvx
    have HVY := Lib.hid hvy
    have HBW := Lib.hid hbw
    clear hvx hvy hbw
    refine (bytes_ok HVX.out hok1).mono ?_
    rintro r w4 ⟨u4, rfl, hO, hb⟩
    obtain ⟨a4, c4, rfl⟩ := hO.len
    replace HQ : Hid (Below wy.heap.size wy w4) := HQ.out.trans (hb.mono HQ.out.size)
    have HOK1 := Lib.hid hok1
    clear hO hb hok1
    clear z0 z1 z2 z3 HVX HVY HBW
    obtain ⟨⟨z0, z1⟩, ⟨z2, z3⟩, hvx, hvy, hbw⟩ := HXY.out w4 HQ.out
    have HVX := Lib.hid hvx
    have HVY := Lib.hid hvy
    have HBW := Lib.hid hbw
    clear hvx hvy hbw
    go_wp2_with fail
    by_cases hok2 : rootOk b m
    · skip
      refine (bytes_ok HVY.out hok2).mono ?_
      rintro r w5 ⟨u5, rfl, hO, hb⟩
      obtain ⟨a5, c5, rfl⟩ := hO.len
      replace HQ : Hid (Below wy.heap.size wy w5) := HQ.out.trans (hb.mono HQ.out.size)
      have HOK2 := Lib.hid hok2
      have ha1 := hok2.1
      have ha2 := HOK1.out.1
      unfold epOk at ha1 ha2
      obtain ⟨ha1l, ha1u⟩ := ha1
      obtain ⟨ha2l, ha2u⟩ := ha2
      clear hO hb hok2
      clear z0 z1 z2 z3 HVX HVY HBW
      by_cases hpar : a % 2 = b % 2
      · have hp' : (a % 2 == b % 2) = true := by simpa using hpar
        clear hpar
        go_wp2_with fail
        go_ret
        exact ⟨rfl, (HXY.out _ HQ.out).2.2.2.2⟩
      have hp' : (a % 2 == b % 2) = false := by simpa using hpar
      have HPAR : Hid (secE a ≠ secE b) := hpar
      clear hpar
      go_wp2_with fail
      refine (da_new 5 (by decide) (by decide) w5).mono ?_
      rintro r w6 ⟨rfl, hD, hb⟩
      have hs5 := HQ.out.size
      have HD := Lib.hid hD
      replace HQ : Hid (Below wy.heap.size wy w6) := HQ.out.trans (hb.mono HQ.out.size)
      have hd6 := hD.lt
      clear hD hb hp'
      obtain ⟨⟨z0, z1⟩, ⟨z2, z3⟩, hvx, hvy, hbw⟩ := HXY.out w6 HQ.out
      have HVX := Lib.hid hvx
      have HVY := Lib.hid hvy
      have HBW := Lib.hid hbw
      clear hvx hvy hbw
      go_wp2_with fail
      refine (save_ok HD.out (by decide) (by decide) (by decide) rfl rfl (by decide) (by omega) HVX.out HOK1.out).mono ?_
      rintro r w7 ⟨rfl, pb7, hD, hp7, hk⟩
      rw [show goneF (goneF 0 false) false = 0 from rfl] at hD
      replace HQ : Hid (Below wy.heap.size wy w7) := HQ.out.trans ((HD.out.out hk (by omega) (fun z hz => hz)).mono hs5)
      replace HD := Lib.hid hD
      have hd7 := hD.lt
      have hlo7 := hD.low
      clear hD hk
      clear z0 z1 z2 z3 HVX HVY HBW
      obtain ⟨⟨z0, z1⟩, ⟨z2, z3⟩, hvx, hvy, hbw⟩ := HXY.out w7 HQ.out
      have HVX := Lib.hid hvx
      have HVY := Lib.hid hvy
      have HBW := Lib.hid hbw
      clear hvx hvy hbw
      go_wp2_with fail
      refine (save_ok HD.out (by decide) (by decide) (by decide) rfl rfl (by decide) (by omega) HVY.out HOK2.out).mono ?_
      rintro r w8 ⟨rfl, pb8, hD, hp8, hk⟩
      rw [show goneF (goneF 0 false) false = 0 from rfl] at hD
      replace hD : DA w5.heap.size w8 (w5.heap.size + 2) w5.heap.size pb8 5 (twoF a b l m) [] (0 + 1 + 1 + 1 + 1) 0 false := hD
      replace HQ : Hid (Below wy.heap.size wy w8) := HQ.out.trans ((HD.out.out hk (by omega) (fun z hz => hz)).mono hs5)
      replace HD := Lib.hid hD
      have hd8 := hD.lt
      have hlo8 := hD.low
      clear hD hk
      clear z0 z1 z2 z3 HVX HVY HBW
      go_wp2_with fail
      refine (made_calls 1099511627776 (rdK_nil .i64 w8) (by decide)).mono ?_
      rintro r w9 ⟨u9, rfl, hO, hb⟩
      have HU := Lib.hid hO.rdK
      replace HQ : Hid (Below wy.heap.size wy w9) := HQ.out.trans (hb.mono HQ.out.size)
      replace HD := Lib.hid (HD.out.below hb)
      obtain ⟨a9, c9, rfl⟩ := hO.len
      clear hO hb
      go_wp2_with fail
      refine (bytes_ok HU.out (by decide)).mono ?_
      rintro r w10 ⟨u10, rfl, hO, hb⟩
      have hl10 := rootL_length 1099511627776 []
      obtain ⟨hR10, a10, c10, rfl⟩ := rdB_of_own hO hl10
      have HR10 := Lib.hid hR10
      have HOB : Hid (∀ g, (Value.slice a10 128 c10).ownBlock = some g → w9.heap.size ≤ g) := fun g hg => (World.ownsRow.lt hO g hg).1
      have HD9 := HD.out.lt
      replace HQ : Hid (Below wy.heap.size wy w10) := HQ.out.trans (hb.mono HQ.out.size)
      replace HD := Lib.hid (HD.out.below hb)
      have hd10 := HD.out.lt
      clear hO hb hl10 hR10 HU
      go_wp2_with fail
      refine (da_write HD.out (by decide) (by decide) rfl 3 (by decide) (by decide) (by decide) HR10.out (rootL_length _ _) (fun g hg => by have := HOB.out g hg; omega)).mono ?_
      rintro r w11 ⟨rfl, hD, hk⟩
      rw [show goneF 0 false = 0 from rfl] at hD
      replace HQ : Hid (Below wy.heap.size wy w11) := HQ.out.trans ((HD.out.out hk (by omega) (fun z hz => hz.elim .inl (fun h => .inr (.inr h)))).mono hs5)
      replace HD := Lib.hid hD
      have hd11 := hD.lt
      clear hD hk HR10 HOB
      go_wp2_with fail
      refine (da_flush HD.out (by decide) (by decide) rfl (by decide) (by omega)).mono ?_
      rintro r w12 ⟨rfl, pb12, hD, hp12, hk⟩
      rw [show goneF 0 false = 0 from rfl] at hD
      replace hD : DA w5.heap.size w12 (w5.heap.size + 2) w5.heap.size pb12 5 (threeF a b l m) [] (0 + 1 + 1 + 1 + 1 + 1 + 1) 0 false := hD
      replace HQ : Hid (Below wy.heap.size wy w12) := HQ.out.trans ((HD.out.out hk (by omega) (fun z hz => hz.elim .inl (fun h => .inr (.inl h)))).mono hs5)
      replace HD := Lib.hid hD
      clear hD hk
      have HG : Hid (loadL (rdS (threeF a b l m) []) = if a < b then (b, m) else (a, l)) := greater HOK1.out HOK2.out HPAR.out
      go_wp2_with fail
      refine (load_ok (HE.out.below (HXY.out _ HQ.out).2.2.2.2) (by decide) (by decide) HD.out (by decide) (by decide) (fun i => threeF_bytes HOK1.out.2.2 HOK2.out.2.2 i)).mono ?_
      rintro r w13 ⟨hb, v13, rfl, hV⟩
      rw [HG.out] at hV ⊢
      replace HQ : Hid (Below wy.heap.size wy w13) := HQ.out.trans (hb.mono HQ.out.size)
      clear hb HD
      by_cases hlt : a < b
      · rw [if_pos hlt] at hV ⊢
        simp only at hV ⊢
        obtain ⟨av, cv, rfl, _, _⟩ := hV.len
        have HV := Lib.hid hV
        clear hV
        rw [decide_eq_true (show (0 : Int) < b by omega)]
        obtain ⟨⟨z0, z1⟩, ⟨z2, z3⟩, hvx, hvy, hbw⟩ := HXY.out w13 HQ.out
        have hsq := HQ.out.size
        have hl1 : w2.heap.size < w13.heap.size := by have := HXs.out; omega
        have hl2 : w3.heap.size < w13.heap.size := by omega
        have HVY := Lib.hid hvy
        have HBW := Lib.hid hbw
        clear hvx hvy hbw
        go_wp2_with fail
        refine (same_calls b b (xs := m) (ys := m) (HV.out.below (show Below w13.heap.size w13 _ by (repeat (first | exact Below.refl _ _ | assumption | refine Below.drew ?_ | refine below_many ?_ _ | refine Below.alloc ?_ (by first | (simp; done) | (simp; omega) | omega) _ | refine Below.setCell ?_ (by first | (simp; done) | (simp; omega) | omega) _)))) (HVY.out.below (show Below w13.heap.size w13 _ by (repeat (first | exact Below.refl _ _ | assumption | refine Below.drew ?_ | refine below_many ?_ _ | refine Below.alloc ?_ (by first | (simp; done) | (simp; omega) | omega) _ | refine Below.setCell ?_ (by first | (simp; done) | (simp; omega) | omega) _))))).mono ?_
        rintro r w14 ⟨rfl, hb⟩
        rw [show decide (b = b ∧ m = m) = true by simp]
        have HB14 : Hid (Below w.heap.size w w14) := HBW.out.trans ((show Below w13.heap.size w13 w14 from Below.trans (show Below w13.heap.size w13 _ by (repeat (first | exact Below.refl _ _ | assumption | refine Below.drew ?_ | refine below_many ?_ _ | refine Below.alloc ?_ (by first | (simp; done) | (simp; omega) | omega) _ | refine Below.setCell ?_ (by first | (simp; done) | (simp; omega) | omega) _))) (hb.mono (by simp [World.setCell]; try omega))).mono HBW.out.size)
        clear hb z0 z1 z2 z3
        go_wp2_with fail
        refine (is_nil 0 _).mono ?_
        rintro r w15 ⟨rfl, hb⟩
        rw [show ((0 : Int) == 0) = true from rfl]
        have HB15 : Hid (Below w.heap.size w w15) := HB14.out.trans (hb.mono HB14.out.size)
        clear hb
        go_wp2_with fail
        go_ret
        exact ⟨rfl, HB15.out⟩
      · rw [if_neg hlt] at hV ⊢
        simp only at hV ⊢
        obtain ⟨av, cv, rfl, _, _⟩ := hV.len
        have HV := Lib.hid hV
        clear hV
        rw [decide_eq_true (show (0 : Int) < a by omega)]
        obtain ⟨⟨z0, z1⟩, ⟨z2, z3⟩, hvx, hvy, hbw⟩ := HXY.out w13 HQ.out
        have hsq := HQ.out.size
        have hl1 : w2.heap.size < w13.heap.size := by have := HXs.out; omega
        have hl2 : w3.heap.size < w13.heap.size := by omega
        have HVX := Lib.hid hvx
        have HBW := Lib.hid hbw
        have hd : decide (a < b) = false := decide_eq_false hlt
        clear hvx hvy hbw
        go_wp2_with fail
        refine (same_calls a a (xs := l) (ys := l) (HV.out.below (show Below w13.heap.size w13 _ by (repeat (first | exact Below.refl _ _ | assumption | refine Below.drew ?_ | refine below_many ?_ _ | refine Below.alloc ?_ (by first | (simp; done) | (simp; omega) | omega) _ | refine Below.setCell ?_ (by first | (simp; done) | (simp; omega) | omega) _)))) (HVX.out.below (show Below w13.heap.size w13 _ by (repeat (first | exact Below.refl _ _ | assumption | refine Below.drew ?_ | refine below_many ?_ _ | refine Below.alloc ?_ (by first | (simp; done) | (simp; omega) | omega) _ | refine Below.setCell ?_ (by first | (simp; done) | (simp; omega) | omega) _))))).mono ?_
        rintro r w14 ⟨rfl, hb⟩
        rw [show decide (a = a ∧ l = l) = true by simp]
        have HB14 : Hid (Below w.heap.size w w14) := HBW.out.trans ((show Below w13.heap.size w13 w14 from Below.trans (show Below w13.heap.size w13 _ by (repeat (first | exact Below.refl _ _ | assumption | refine Below.drew ?_ | refine below_many ?_ _ | refine Below.alloc ?_ (by first | (simp; done) | (simp; omega) | omega) _ | refine Below.setCell ?_ (by first | (simp; done) | (simp; omega) | omega) _))) (hb.mono (by simp [World.setCell]; try omega))).mono HBW.out.size)
        clear hb z0 z1 z2 z3
        go_wp2_with fail
        refine (is_nil 0 _).mono ?_
        rintro r w15 ⟨rfl, hb⟩
        rw [show ((0 : Int) == 0) = true from rfl]
        have HB15 : Hid (Below w.heap.size w w15) := HB14.out.trans (hb.mono HB14.out.size)
        clear hb
        go_wp2_with fail
        go_ret
        exact ⟨rfl, HB15.out⟩
    · refine (bytes_bad (HE.out.below HBW.out) (by decide) (by decide) HVY.out hok2).mono ?_
      rintro r w5 ⟨rfl, hb⟩
      have HB5 : Hid (Below w.heap.size w w5) := HBW.out.trans (hb.mono HBW.out.size)
      generalize rootErr b m = kk
      rw [show ev p kk = Value.iface 236 (.pointer (some (p kk))) from rfl]
      clear hb hok2 z0 z1 z2 z3
      go_wp2_with fail
      go_ret
      exact ⟨rfl, HB5.out⟩
  · skip
    obtain ⟨⟨z0, z1⟩, ⟨z2, z3⟩, hvx, hvy, hbw⟩ := HXY.out wy HQ.out
    have HVX := Lib.hid hvx
    have HVY := Lib.hid hvy
    have HBW := Lib.hid hbw
    clear hvx hvy hbw
    refine (bytes_bad (HE.out.below HBW.out) (by decide) (by decide) HVX.out hok1).mono ?_
    rintro r w4 ⟨rfl, hb⟩
    replace HQ : Hid (Below wy.heap.size wy w4) := HQ.out.trans (hb.mono HQ.out.size)
    generalize rootErr a l = kk
    rw [show ev p kk = Value.iface 236 (.pointer (some (p kk))) from rfl]
    clear hb hok1
    clear z0 z1 z2 z3 HVX HVY HBW
    obtain ⟨⟨z0, z1⟩, ⟨z2, z3⟩, hvx, hvy, hbw⟩ := HXY.out w4 HQ.out
    have HVX := Lib.hid hvx
    have HVY := Lib.hid hvy
    have HBW := Lib.hid hbw
    clear hvx hvy hbw
    go_wp2_with fail
    by_cases hok2 : rootOk b m
    · refine (bytes_ok HVY.out hok2).mono ?_
      rintro r w5 ⟨u5, rfl, hO, hb⟩
      obtain ⟨a5, c5, rfl⟩ := hO.len
      have HB5 : Hid (Below w.heap.size w w5) := HBW.out.trans (hb.mono HBW.out.size)
      clear hO hb hok2 z0 z1 z2 z3
      go_wp2_with fail
      go_ret
      exact ⟨rfl, HB5.out⟩
    · refine (bytes_bad (HE.out.below HBW.out) (by decide) (by decide) HVY.out hok2).mono ?_
      rintro r w5 ⟨rfl, hb⟩
      have HB5 : Hid (Below w.heap.size w w5) := HBW.out.trans (hb.mono HBW.out.size)
      generalize rootErr b m = kk2
      rw [show ev p kk2 = Value.iface 236 (.pointer (some (p kk2))) from rfl]
      clear hb hok2 z0 z1 z2 z3
      go_wp2_with fail
      go_ret
      exact ⟨rfl, HB5.out⟩
end Go.Proofs.YtehacchacgfjlaaDoor
