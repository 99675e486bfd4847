/- The walk of pledgelaw12.CutPlays: it returns true, and writes nothing that was there. (Written by gen_cutplays.py.) -/
import Derived.Test.YtehacchacgfjlaaDoorCutPlay
import Derived.Test.YtehacchacgfjlaaDoorFirst12
import Derived.Deep.RegionHeld3
import Derived.Deep.DeepCutAuto
namespace Go.Proofs.YtehacchacgfjlaaDoor
open Go.Maps
open Go Go.RowKit
set_option linter.unusedSimpArgs false
set_option linter.unusedVariables false

theorem zeroCuts : Tryd.zeroCells82.toList = (List.range 73).map (cutsF [] 0) := by kernel_rfl
theorem arr_new (w : World) (cs : Array Value) (T : TypeId) (n : Nat) (f : Nat → Value) (h : cs.toList = (List.range n).map f) : Arr (w.alloc (.cells cs T)) w.heap.size n f := by
  have hc : ∀ j, j < n → cs[j]? = some (f j) := fun j hj => by
    rw [← Array.getElem?_toList, h]
    simp [hj]
  refine ⟨fun j hj => ?_, fun j hj => ?_⟩
  · simp only [World.cell?, World.alloc, Array.getElem?_push, if_true]
    simpa using hc j hj
  · simp only [World.frozen?, World.alloc, Array.getElem?_push, if_true]
    simp
/-- What a round's copy reads. -/
structure DC (w : World) (d : Nat) (x2 x3 x4 : Int) : Prop where
  c1 : w.cell? ⟨d, 1, none⟩ = some (.int .i64 x2)
  c2 : w.cell? ⟨d, 2, none⟩ = some (.int .i64 x3)
  c3 : w.cell? ⟨d, 3, none⟩ = some (.int .i64 x4)
theorem DC.keep {S : Nat → Prop} {w w' : World} {d : Nat} {x2 x3 x4 : Int} (h : DC w d x2 x3 x4) (k : Keep S w w') (hs : ¬ S d) : DC w' d x2 x3 x4 := by
  have hlt : d < w.heap.size := World.block_lt_of_cell? w ⟨d, 1, none⟩ h.c1
  exact ⟨(k.cell (x := ⟨d, 1, none⟩) hlt hs).trans h.c1, (k.cell (x := ⟨d, 2, none⟩) hlt hs).trans h.c2, (k.cell (x := ⟨d, 3, none⟩) hlt hs).trans h.c3⟩
theorem DC.below {w w' : World} {d : Nat} {x2 x3 x4 : Int} (h : DC w d x2 x3 x4) (k : Below w.heap.size w w') : DC w' d x2 x3 x4 := h.keep (S := fun _ => False) (Keep.of_below k) (fun h => h)
theorem dc_new (w : World) (x1 x2 x3 x4 : Int) (T : TypeId) : DC (w.alloc (.cells #[.int .i64 x1, .int .i64 x2, .int .i64 x3, .int .i64 x4] T)).drew w.heap.size x2 x3 x4 :=
  ⟨by go_simp, by go_simp, by go_simp⟩
/-- The asset's copy. -/
structure AC (w : World) (g : Nat) (id iss cls mon en : Int) : Prop where
  c0 : w.cell? ⟨g, 0, none⟩ = some (.int .i64 id)
  c1 : w.cell? ⟨g, 1, none⟩ = some (.int .i64 iss)
  c2 : w.cell? ⟨g, 2, none⟩ = some (.int .i64 cls)
  c3 : w.cell? ⟨g, 3, none⟩ = some (.int .i64 mon)
  c4 : w.cell? ⟨g, 4, none⟩ = some (.int .i64 en)
theorem AC.below {w w' : World} {g : Nat} {id iss cls mon en : Int} (h : AC w g id iss cls mon en) (k : Below w.heap.size w w') : AC w' g id iss cls mon en := by
  have hlt : g < w.heap.size := World.block_lt_of_cell? w ⟨g, 0, none⟩ h.c0
  exact ⟨(k.cell (p := ⟨g, 0, none⟩) hlt).trans h.c0, (k.cell (p := ⟨g, 1, none⟩) hlt).trans h.c1, (k.cell (p := ⟨g, 2, none⟩) hlt).trans h.c2, (k.cell (p := ⟨g, 3, none⟩) hlt).trans h.c3, (k.cell (p := ⟨g, 4, none⟩) hlt).trans h.c4⟩
/-- Where the map's block may lie. -/
def Rok (s lb yb : Nat) (r : Option Nat) : Prop := ∀ x, r = some x → s ≤ x ∧ x ≠ yb ∧ x ≠ lb
theorem Rok.next {s lb yb sz : Nat} {r r' : Option Nat} (h : Rok s lb yb r) (hr : r' = r ∨ ∃ nb, r' = some nb ∧ sz ≤ nb) (h1 : s ≤ sz) (h2 : yb < sz) (h3 : lb < sz) : Rok s lb yb r' := by
  rcases hr with rfl | ⟨nb, rfl, hnb⟩
  · exact h
  · intro x hx
    cases hx
    exact ⟨by omega, by omega, by omega⟩

set_option maxHeartbeats 16000000 in
set_option maxRecDepth 100000 in
theorem walk_CutPlays {p : Nat → Addr} {w : World} (hE : Errs (List.range 21) w.heap.size p w) (a : Option Addr) (len cap : Nat) (zs : List Int) (id iss cls mon en today class_ bucket : Int) (hz : IsRows 4 w a len cap zs) (l0 : -9223372036854775808 ≤ id) (u0 : id ≤ 9223372036854775807) (l1 : -9223372036854775808 ≤ iss) (u1 : iss ≤ 9223372036854775807) (l2 : -9223372036854775808 ≤ cls) (u2 : cls ≤ 9223372036854775807) (l3 : -9223372036854775808 ≤ mon) (u3 : mon ≤ 9223372036854775807) (l4 : -9223372036854775808 ≤ en) (u4 : en ≤ 9223372036854775807) (l5 : -9223372036854775808 ≤ today) (u5 : today ≤ 9223372036854775807) (l6 : -9223372036854775808 ≤ class_) (u6 : class_ ≤ 9223372036854775807) (l7 : -9223372036854775808 ≤ bucket) (u7 : bucket ≤ 9223372036854775807) :
    Calls Tryd.prog 13 #[.slice a len cap, assetV id iss cls mon en, .int .i64 today, .int .i64 class_, .int .i64 bucket] w fun e w' => e = .returned (.bool true) ∧ Below w.heap.size w w' := by
  have HE := Lib.hid hE; clear hE
  have HB0 : Below w.heap.size w (w.alloc (Obj.cells #[.int .i64 id, .int .i64 iss, .int .i64 cls, .int .i64 mon, .int .i64 en] 74)) := by (repeat (first | exact Below.refl _ _ | assumption | refine Below.drew ?_ | refine below_many ?_ _ | refine Below.alloc ?_ (by first | (simp; done) | (simp; omega) | omega) _ | refine Below.setCell ?_ (by first | (simp; done) | (simp; omega) | omega) _))
  by_cases hl : 60 < len
  · have hl1 : decide ((60 : Int) < len) = true := decide_eq_true (by omega)
    clear hz hl
    go_enter Tryd.func13, Tryd.ntmps13
    go_wp2_with fail
    refine (first12_calls (HE.out.below HB0) (by decide)).mono ?_
    rintro e w1 ⟨rfl, hb1⟩
    go_wp2_with fail
    go_ret
    exact ⟨rfl, bbase HB0 hb1⟩
  have hl1 : decide ((60 : Int) < len) = false := decide_eq_false (by omega)
  have HZ := Lib.hid hz
  have HW := Lib.hid (And.intro (And.intro (i64wf l6 u6) (i64wf l7 u7)) (And.intro l5 u5))
  clear hz l0 u0 l1 u1 l2 u2 l3 u3 l4 u4 l5 u5 l6 u6 l7 u7
  go_enter Tryd.func13, Tryd.ntmps13
  go_wp2_with fail
  refine (first12_calls (HE.out.below HB0) (by decide)).mono ?_
  rintro e w1 ⟨rfl, hb1⟩
  obtain ⟨W1, hW1⟩ : ∃ W1, W1 = w.alloc (Obj.cells #[.int .i64 id, .int .i64 iss, .int .i64 cls, .int .i64 mon, .int .i64 en] 74) := ⟨_, rfl⟩
  have HA : Hid (W1.heap.size = w.heap.size + 1 ∧ W1.cell? ⟨w.heap.size, 0, none⟩ = some (.int .i64 id) ∧ W1.cell? ⟨w.heap.size, 1, none⟩ = some (.int .i64 iss) ∧ W1.cell? ⟨w.heap.size, 2, none⟩ = some (.int .i64 cls) ∧ W1.cell? ⟨w.heap.size, 3, none⟩ = some (.int .i64 mon) ∧ W1.cell? ⟨w.heap.size, 4, none⟩ = some (.int .i64 en)) := by
    rw [hW1]; exact ⟨by simp, by go_simp, by go_simp, by go_simp, by go_simp, by go_simp⟩
  rw [← hW1] at hb1 HB0
  have hs1 := hb1.size
  go_wp2_with fail
  obtain ⟨w2, hw2⟩ : ∃ w2, w2 = (w1.alloc (Obj.cells #[Value.map none, .int .i64 0] 64)).alloc (Obj.cells Tryd.zeroCells82 82) := ⟨_, rfl⟩
  have HL0 : Hid (LadR w2 w1.heap.size none [] 0) := by
    rw [hw2]
    have h0 : LadR (w1.alloc (Obj.cells #[Value.map none, .int .i64 0] 64)) w1.heap.size none [] 0 := ⟨by go_simp, .inl ⟨rfl, rfl⟩, by go_simp, by go_simp, by go_simp, by omega, by simp⟩
    exact h0.below ((Below.refl _ _).alloc (Nat.le_refl _) _)
  have HY0 : Hid (Arr w2 (w1.heap.size + 1) 73 (cutsF [] 0)) := by
    rw [hw2]
    have := arr_new (w1.alloc (Obj.cells #[Value.map none, .int .i64 0] 64)) _ 82 73 _ zeroCuts
    rwa [World.size_alloc] at this
  have HN0 : Hid (Below W1.heap.size W1 w2) := by rw [hw2]; unfold Hid; (repeat (first | exact Below.refl _ _ | assumption | refine Below.drew ?_ | refine below_many ?_ _ | refine Below.alloc ?_ (by first | (simp; done) | (simp; omega) | omega) _ | refine Below.setCell ?_ (by first | (simp; done) | (simp; omega) | omega) _))
  have hw2s : w1.heap.size + 2 ≤ w2.heap.size := by rw [hw2]; simp
  rw [← hw2]
  have HB := Lib.hid HB0
  have hW1s : W1.heap.size = w.heap.size + 1 := HA.out.1
  clear hw2 hb1 hW1 HB0
  generalize w1.heap.size = lb at HL0 HY0 hw2s hs1 ⊢
  go_loopw [14] (fun i wr => ∃ (k : Nat) (r : Option Nat), k ≤ len ∧ i = .int .i64 k ∧ Hid (LadR wr lb r (cpHave zs k).1 (cpHave zs k).2) ∧ Hid (Arr wr (lb + 1) 73 (cutsF (cpHave zs k).1 (cpHave zs k).2)) ∧ Hid (Rok W1.heap.size lb (lb + 1) r) ∧ Hid (Below W1.heap.size W1 wr) ∧ lb + 2 ≤ wr.heap.size) (fun i _ => len - (intOf i).toNat)
  case atStart => exact ⟨0, none, by omega, rfl, HL0, HY0, (fun x hx => by cases hx), HN0, hw2s⟩
  case round =>
    obtain ⟨k, r, hk, rfl, hL, hY, hR, hN, hsw⟩ := hrel
    by_cases hkl : k < len
    · have hbw := bbase HB.out hN.out
      obtain ⟨b, off, rfl, hbl, hzl, hlc, hcm, hcell, hwf⟩ := HZ.out.open (by decide) (by omega)
      unfold maxLen at hcm
      have D0 := (hbw.cell (p := ⟨b, off + k * 4, none⟩) hbl).trans (hcell (k * 4) (by omega))
      have D1 := (hbw.cell (p := ⟨b, off + (k * 4 + 1), none⟩) hbl).trans (hcell (k * 4 + 1) (by omega))
      have D2 := (hbw.cell (p := ⟨b, off + (k * 4 + 2), none⟩) hbl).trans (hcell (k * 4 + 2) (by omega))
      have D3 := (hbw.cell (p := ⟨b, off + (k * 4 + 3), none⟩) hbl).trans (hcell (k * 4 + 3) (by omega))
      rw [← Nat.add_assoc] at D1 D2 D3
      have HN : Hid (cpHave zs (k + 1) = cpNext (cpHave zs k) (zs.getD (k * 4) 0) (zs.getD (k * 4 + 1) 0) (zs.getD (k * 4 + 2) 0) (zs.getD (k * 4 + 3) 0)) := rfl
      generalize zs.getD (k * 4) 0 = x1 at D0 HN
      generalize zs.getD (k * 4 + 1) 0 = x2 at D1 HN
      generalize zs.getD (k * 4 + 2) 0 = x3 at D2 HN
      generalize zs.getD (k * 4 + 3) 0 = x4 at D3 HN
      generalize cpHave zs k = s at hL hY HN
      obtain ⟨m, fx⟩ := s
      simp only at hL hY
      clear hcell hwf HL0 HY0 HN0 hbw
      have hdr : ∀ x, r = some x → x ≠ wr.heap.size := fun x hx e => by have := hL.out.map.lt x hx; omega
      have hRo := hR.out
      obtain ⟨wd, hwd⟩ : ∃ wd, wd = wr.alloc (Obj.cells #[.int .i64 x1, .int .i64 x2, .int .i64 x3, .int .i64 x4] 84) := ⟨_, rfl⟩
      have hbd : Below wr.heap.size wr wd.drew := by rw [hwd]; (repeat (first | exact Below.refl _ _ | assumption | refine Below.drew ?_ | refine below_many ?_ _ | refine Below.alloc ?_ (by first | (simp; done) | (simp; omega) | omega) _ | refine Below.setCell ?_ (by first | (simp; done) | (simp; omega) | omega) _))
      have HD : Hid (DC wd.drew wr.heap.size x2 x3 x4) := by rw [hwd]; exact dc_new wr x1 x2 x3 x4 _
      have HL : Hid (LadR wd.drew lb r m fx) := hL.out.below hbd
      have HY : Hid (Arr wd.drew (lb + 1) 73 (cutsF m fx)) := hY.out.below (by omega) hbd
      have hN : Below W1.heap.size W1 wd.drew := bbase hN.out hbd
      have hds : wr.heap.size < wd.drew.heap.size := by rw [hwd]; simp
      have kd0 : wd.cell? ⟨wr.heap.size, 0, none⟩ = some (.int .i64 x1) := by rw [hwd]; go_simp
      have HD0 := HD.out
      have HRl := Lib.hid hRo
      clear hL hY hR hbd hRo
      by_cases hx1 : x1 = 1
      · have e1 : (x1 == 1) = true := by simpa using hx1
        have HC : Hid (cpNext (m, fx) x1 x2 x3 x4 = (if stepOK x2 x3 x4 then mput m (x2, x3) x4 else m, fx)) := by unfold Hid cpNext; rw [if_pos hx1]
        clear hx1
        go_wp2_with fail
        rw [← hwd]
        clear hwd D0 D1 D2 D3
        generalize hdb : wr.heap.size = db at *
        clear hdb
        go_wp2_with fail
        go_region_held3 (fun wq => wq.cell? ⟨db, 1, none⟩ = some (.int .i64 x2) ∧ wq.cell? ⟨db, 2, none⟩ = some (.int .i64 x3) ∧ wq.cell? ⟨db, 3, none⟩ = some (.int .i64 x4))
          (exact ⟨HD.out.c1, HD.out.c2, HD.out.c3⟩)
          (first
            | (go_at_call 40; go_loud (refine (ladR_set (HE.out.below (bbase HB.out hN)) HL.out x2 x3 x4).mono ?_); go_loud (rintro e w3 ⟨rfl, r3, hL3, hr3, hk3⟩; have hs3 := hk3.size; have hN0 := hN; have HD := Lib.hid (HD.out.keep hk3 (fun h => h.elim (fun h => by omega) (fun h => hdr _ h rfl))); have HY := Lib.hid (HY.out.keep (by decide) hk3 (fun h => h.elim (fun h => by omega) (fun h => (HRl.out _ h).2.1 rfl))); have hN := hN.trans (hk3.below hN.size (fun j hj h => h.elim (fun h => by omega) (fun h => by have := (HRl.out _ h).1; omega))); have HL := Lib.hid hL3; have HR3 := Lib.hid (HRl.out.next hr3 hN0.size (by omega) (by omega))))
            | (go_at_call 45; go_loud (refine (cuts_set HY.out x2 x3 x4).mono ?_); go_loud (rintro e w4 ⟨rfl, hY4, hk4⟩; have hs4 := hk4.size; have HD := Lib.hid (HD.out.keep hk4 (fun h => by omega)); have HL := Lib.hid (HL.out.keep hk4 (fun h => by omega) (fun x hx h => (HR3.out x hx).2.1 h)); have HY := Lib.hid hY4; have hN := hN.trans (hk4.below hN.size (fun j hj h => by omega))))
            | (go_at_call 19; go_loud (refine (is_okV (HE.out.below (bbase HB.out hN)) (stepOK x2 x3 x4)).mono ?_); go_loud (rintro e w5 ⟨rfl, hb⟩; have hs5 := hb.size; have HD := Lib.hid (HD.out.below hb); have HL := Lib.hid (HL.out.below hb); have HY := Lib.hid (HY.out.below (by omega) hb); have hN := bbase hN hb)))
        go_wp2_with fail
        go_roundw
        case rel => exact ⟨k + 1, r3, by omega, by go_num, by rw [HN.out, HC.out]; exact HL, by rw [HN.out, HC.out]; exact HY, HR3, hN, by omega⟩
        case measure => simp [intOf]; omega
      · have e1 : (x1 == 1) = false := by simpa using hx1
        have HC : Hid (cpNext (m, fx) x1 x2 x3 x4 = (m, if isBp x4 then x4 else fx)) := by unfold Hid cpNext; rw [if_neg hx1]
        clear hx1
        go_wp2_with fail
        rw [← hwd]
        clear hwd D0 D1 D2 D3
        generalize hdb : wr.heap.size = db at *
        clear hdb
        go_wp2_with fail
        go_region_held3 (fun wq => wq.cell? ⟨db, 3, none⟩ = some (.int .i64 x4))
          (exact HD.out.c3)
          (first
            | (go_at_call 46; go_loud (refine (ladR_fx (HE.out.below (bbase HB.out hN)) HL.out x4).mono ?_); go_loud (rintro e w3 ⟨rfl, hL3, hk3⟩; have hs3 := hk3.size; have HD := Lib.hid (HD.out.keep hk3 (fun h => by omega)); have HY := Lib.hid (HY.out.keep (by decide) hk3 (fun h => by omega)); have hN := hN.trans (hk3.below hN.size (fun j hj h => by omega)); have HL := Lib.hid hL3))
            | (go_at_call 47; go_loud (refine (cuts_fx HY.out x4).mono ?_); go_loud (rintro e w4 ⟨rfl, hY4, hk4⟩; have hs4 := hk4.size; have HD := Lib.hid (HD.out.keep hk4 (fun h => by omega)); have HL := Lib.hid (HL.out.keep hk4 (fun h => by omega) (fun x hx h => (HRl.out x hx).2.1 h)); have HY := Lib.hid hY4; have hN := hN.trans (hk4.below hN.size (fun j hj h => by omega))))
            | (go_at_call 19; go_loud (refine (is_okV (HE.out.below (bbase HB.out hN)) (isBp x4)).mono ?_); go_loud (rintro e w5 ⟨rfl, hb⟩; have hs5 := hb.size; have HD := Lib.hid (HD.out.below hb); have HL := Lib.hid (HL.out.below hb); have HY := Lib.hid (HY.out.below (by omega) hb); have hN := bbase hN hb)))
        go_wp2_with fail
        go_roundw
        case rel => exact ⟨k + 1, r, by omega, by go_num, by rw [HN.out, HC.out]; exact HL, by rw [HN.out, HC.out]; exact HY, HRl, hN, by omega⟩
        case measure => simp [intOf]; omega
    · obtain rfl : k = len := by omega
      have hlen := cpHave_len zs k
      obtain ⟨hKC, hnd⟩ := cpHave_keys zs k
      generalize cpHave zs k = s at hL hY hlen hKC hnd
      obtain ⟨m, fx⟩ := s
      simp only at hL hY hlen hKC hnd
      clear HZ HL0 HY0 HN0
      go_wp2_with fail
      refine (allC_calls hL.out.cmap hL.out.map (by omega)).mono ?_
      rintro e w3 ⟨v, rfl, ⟨ad, cp, rfl, hlc, hcm, hcells⟩, hb3⟩
      have HL := Lib.hid (hL.out.below hb3)
      have HY := Lib.hid (hY.out.below (by omega) hb3)
      have HN := Lib.hid (bbase hN.out hb3)
      have hsz3 := hb3.size
      have hsw3 : lb + 2 ≤ w3.heap.size := by omega
      clear hL hY hR hN hb3 hsz3 hsw hlen
      obtain ⟨K, hK⟩ : ∃ K, K = m.map (·.1) := ⟨_, rfl⟩
      rw [← hK] at hnd hcells hlc ⊢
      have hKb : ∀ x ∈ K, 1 ≤ x.1 ∧ x.1 ≤ 6 ∧ 0 ≤ x.2 ∧ x.2 ≤ 5 := fun x hx => by
        rw [hK] at hx
        obtain ⟨y, hy, rfl⟩ := List.mem_map.1 hx
        exact hKC y hy
      have hmem : ∀ c b, (mget m (c, b)).isSome = true ↔ (c, b) ∈ K := fun c b => by rw [hK]; exact (mem_keys_iff (c, b)).symm
      have hKl : (sortP K).length = K.length := sortP_length K
      have hSN : ∀ c b, (c, b) ∈ K → (sortP K)[cntP K c b]? = some (c, b) := fun c b h => sortP_next hnd h
      have HG := Lib.hid (And.intro hKb (And.intro hmem (And.intro hSN (And.intro hcells (And.intro hnd hKl)))))
      have HKC := Lib.hid hKC
      clear hK hKb hmem hSN hcells hnd hKC
      generalize (sortP K).length = nn at hKl hlc ⊢
      unfold maxLen at hcm
      have h00 : cntP K 1 0 = 0 := cntP_start (fun x hx => ⟨(HG.out.1 x hx).1, (HG.out.1 x hx).2.2.1⟩)
      have H00 := Lib.hid h00
      have HNN := Lib.hid hKl
      clear h00 hKl
      go_wp2_with fail
      go_loop [18, 17] (fun cv nv => ∃ c : Int, 1 ≤ c ∧ c ≤ 7 ∧ cv = .int .i64 c ∧ nv = .int .i64 ((cntP K c 0 : Nat) : Int)) (fun cv _ => (7 - intOf cv).toNat)
      case atStart => exact ⟨1, by omega, by omega, rfl, by rw [H00.out]; rfl⟩
      case round =>
        obtain ⟨c, hc1, hc7, rfl, rfl⟩ := hrel
        by_cases hc : c ≤ 6
        · go_wp2_with fail
          go_loop [19, 17] (fun bv nv => ∃ b : Int, 0 ≤ b ∧ b ≤ 6 ∧ bv = .int .i64 b ∧ nv = .int .i64 ((cntP K c b : Nat) : Int)) (fun bv _ => (6 - intOf bv).toNat)
          case atStart => exact ⟨0, by omega, by omega, rfl, rfl⟩
          case round =>
            obtain ⟨b, hb0, hb6, rfl, rfl⟩ := hrel
            by_cases hb : b < 6
            · have hcell := HY.out.cell (36 + (c.toNat - 1) * 6 + b.toNat) (by omega)
              rw [cutsF_is m fx hc1 hc hb0 (by omega)] at hcell
              have hsc := Lib.hid (cntP_succ HG.out.2.2.2.2.1 c b)
              by_cases hm : (c, b) ∈ K
              · rw [(HG.out.2.1 c b).2 hm] at hcell
                have hsn := HG.out.2.2.1 c b hm
                have hnl := (List.getElem?_eq_some_iff.1 hsn).1
                obtain ⟨g, rfl, hg1, hg2, hcs⟩ := HG.out.2.2.2.1.resolve_left (fun e => by rw [e] at hsn; simp at hsn)
                obtain ⟨q0, q1⟩ := hcs _ _ hsn
                have hln : cntP K c b < nn := by have h1 := sortP_length K; have h2 := HNN.out; omega
                rw [if_pos hm] at hsc
                clear hsn hnl hcs
                generalize cntP K c b = n at *
                go_wp2_with fail
                go_round
                case rel => exact ⟨b + 1, by omega, by omega, rfl, by rw [hsc.out]; go_num⟩
                case measure => simp [intOf]; omega
              · have hf : (mget m (c, b)).isSome = false := by
                  cases h : (mget m (c, b)).isSome with
                  | false => rfl
                  | true => exact absurd ((HG.out.2.1 c b).1 h) hm
                rw [hf] at hcell
                rw [if_neg hm, Nat.add_zero] at hsc
                clear hf
                generalize hcn : cntP K c b = n at *
                go_wp2_with fail
                go_round
                case rel => exact ⟨b + 1, by omega, by omega, rfl, by rw [hsc.out]⟩
                case measure => simp [intOf]; omega
            · obtain rfl : b = 6 := by omega
              have hrow : Hid (cntP K (c + 1) 0 = cntP K c 6) := cntP_row (fun x hx => by have := HG.out.1 x hx; omega) c
              go_wp2_with fail
              go_round
              case rel => exact ⟨c + 1, by omega, by omega, rfl, by rw [hrow.out]⟩
              case measure => simp [intOf]; omega
        · obtain rfl : c = 7 := by omega
          have hend : cntP K 7 0 = nn := by
            rw [cntP_end (fun x hx => by have := HG.out.1 x hx; omega)]
            exact HNN.out.symm
          rw [hend]
          clear hend
          have hbd3 : Below w3.heap.size w3 w3.drew := by (repeat (first | exact Below.refl _ _ | assumption | refine Below.drew ?_ | refine below_many ?_ _ | refine Below.alloc ?_ (by first | (simp; done) | (simp; omega) | omega) _ | refine Below.setCell ?_ (by first | (simp; done) | (simp; omega) | omega) _))
          have HL := Lib.hid (HL.out.below hbd3)
          have HY := Lib.hid (HY.out.below (by omega) hbd3)
          have hN := bbase HN.out hbd3
          have hsd : lb + 2 ≤ w3.drew.heap.size := hsw3
          clear hbd3 HN
          have hf72 : cutsF m fx 72 = .int .i64 fx := rfl
          have hv := get_bd HL.out.bd (class_, bucket)
          have HG1 : Hid (∀ w', LadR w' lb r m fx → Calls Tryd.prog 41 #[.pointer (some ⟨lb, 0, none⟩), .agg #[.int .i64 class_, .int .i64 bucket]] w' fun e w'' => e = .returned (.int .i64 ((mget m (class_, bucket)).getD 0)) ∧ Below w'.heap.size w' w'') := fun w' h => cutGet_calls h.cmap h.map class_ bucket HW.out.1.1 HW.out.1.2
          have HG2 : Hid (∀ w', Arr w' (lb + 1) 73 (cutsF m fx) → Calls Tryd.prog 48 #[.pointer (some ⟨lb + 1, 0, none⟩), .int .i64 class_, .int .i64 bucket] w' fun e w'' => e = .returned (.int .i64 ((mget m (class_, bucket)).getD 0)) ∧ w' = w'') := fun w' h => cutsGet_calls h HKC.out class_ bucket
          generalize (mget m (class_, bucket)).getD 0 = gv at HG1 HG2 hv
          go_wp2_with fail
          go_region_held3 (fun wq => wq.cell? ⟨lb + 1, 72, none⟩ = some (.int .i64 fx))
            (exact (HY.out.cell 72 (by decide)).trans (by rw [hf72]))
            (first
              | (go_at_call 41; go_loud (refine (HG1.out _ HL.out).mono ?_); go_loud (rintro e w4 ⟨rfl, hb⟩; have hs4 := hb.size; have HL := Lib.hid (HL.out.below hb); have HY := Lib.hid (HY.out.below (by omega) hb); have hN := bbase hN hb))
              | (go_at_call 48; go_loud (refine (HG2.out _ HY.out).mono ?_); go_loud (rintro e w5 ⟨rfl, rfl⟩))
              | (go_at_call 43; go_loud (refine (fx_calls HL.out.cfx).mono ?_); go_loud (rintro e w6 ⟨rfl, rfl⟩)))
          go_wp2_with fail
          have hbd6 : Below w6.heap.size w6 w6.drew := by (repeat (first | exact Below.refl _ _ | assumption | refine Below.drew ?_ | refine below_many ?_ _ | refine Below.alloc ?_ (by first | (simp; done) | (simp; omega) | omega) _ | refine Below.setCell ?_ (by first | (simp; done) | (simp; omega) | omega) _))
          have HL := Lib.hid (HL.out.below hbd6)
          have HY := Lib.hid (HY.out.below (by omega) hbd6)
          have hN := bbase hN hbd6
          have HAC : Hid (AC w6.drew w.heap.size id iss cls mon en) := by
            have h1 := HA.out.2
            have hlt : w.heap.size < W1.heap.size := by omega
            exact ⟨(hN.cell (p := ⟨w.heap.size, 0, none⟩) hlt).trans h1.1, (hN.cell (p := ⟨w.heap.size, 1, none⟩) hlt).trans h1.2.1, (hN.cell (p := ⟨w.heap.size, 2, none⟩) hlt).trans h1.2.2.1, (hN.cell (p := ⟨w.heap.size, 3, none⟩) hlt).trans h1.2.2.2.1, (hN.cell (p := ⟨w.heap.size, 4, none⟩) hlt).trans h1.2.2.2.2⟩
          have hsd6 : lb + 2 ≤ w6.drew.heap.size := Nat.le_trans hsd hs4
          have hVR := @validRef_calls w6.drew id iss cls mon en
          clear hbd6 hb hv hf72
          have HKa : w6.drew.cell? ⟨w.heap.size, 0, none⟩ = some (.int .i64 id) ∧ w6.drew.cell? ⟨w.heap.size, 1, none⟩ = some (.int .i64 iss) ∧ w6.drew.cell? ⟨w.heap.size, 2, none⟩ = some (.int .i64 cls) ∧ w6.drew.cell? ⟨w.heap.size, 3, none⟩ = some (.int .i64 mon) ∧ w6.drew.cell? ⟨w.heap.size, 4, none⟩ = some (.int .i64 en) := ⟨HAC.out.c0, HAC.out.c1, HAC.out.c2, HAC.out.c3, HAC.out.c4⟩
          cases hva : validA id iss cls mon en with
          | false =>
            rw [validN_bad hva] at hVR
            go_wp2_with fail
            refine wp_region_held_drew (S := (fun wq => wq.cell? ⟨w.heap.size, 0, none⟩ = some (.int .i64 id) ∧ wq.cell? ⟨w.heap.size, 1, none⟩ = some (.int .i64 iss) ∧ wq.cell? ⟨w.heap.size, 2, none⟩ = some (.int .i64 cls) ∧ wq.cell? ⟨w.heap.size, 3, none⟩ = some (.int .i64 mon) ∧ wq.cell? ⟨w.heap.size, 4, none⟩ = some (.int .i64 en))) (by kernel_rfl) HKa (fun hHeld => ?_)
            refine wpAnyH_take (i := 0) (v := (.agg #[.int .i64 id, .int .i64 iss, .int .i64 cls, .int .i64 mon, .int .i64 en])) rfl (by kernel_rfl) (by kernel_rfl) (by kernel_rfl) (fun _ _ _ h => h) (Or.inl ⟨by rfl, fun w hSw => by (obtain ⟨q0, q1, q2, q3, q4⟩ := hSw; go_simp)⟩) hHeld ?_
            (try simp only [Act.put, List.getElem_toArray, List.getElem_cons_succ, List.getElem_cons_zero, List.setIfInBounds_toArray, List.set_cons_zero, List.set_cons_succ])
            refine wpAnyH_ready (rs := [1]) (by kernel_rfl) (by simp) ?_
            refine AllReadyH.cons rfl (fun K hK => ?_) AllReadyH.nil
            go_simp
            go_wp2_with (go_at_call 49; refine hVR.mono ?_; rintro e w7 ⟨rfl, hb⟩; have HAC := Lib.hid (HAC.out.below hb); have hN := bbase hN hb)
            refine hK.out _ _ ?_ (fun hHeld2 => ?_)
            · exact (show _ from ⟨HAC.out.c0, HAC.out.c1, HAC.out.c2, HAC.out.c3, HAC.out.c4⟩)
            clear hHeld hK K
            have hHeld := hHeld2
            clear hHeld2
            (try simp only [Act.put, List.getElem_toArray, List.getElem_cons_succ, List.getElem_cons_zero, List.setIfInBounds_toArray, List.set_cons_zero, List.set_cons_succ])
            refine wpAnyH_take (i := 2) (v := (.bool true)) rfl (by kernel_rfl) (by kernel_rfl) (by kernel_rfl) (fun _ _ _ h => h) (Or.inl ⟨by rfl, fun w hSw => by (go_simp)⟩) hHeld ?_
            (try simp only [Act.put, List.getElem_toArray, List.getElem_cons_succ, List.getElem_cons_zero, List.setIfInBounds_toArray, List.set_cons_zero, List.set_cons_succ])
            refine wpAnyH_take (i := 3) (v := (.bool true)) rfl (by kernel_rfl) (by kernel_rfl) (by kernel_rfl) (fun _ _ _ h => h) (Or.inl ⟨by rfl, fun w hSw => by (go_simp)⟩) hHeld ?_
            (try simp only [Act.put, List.getElem_toArray, List.getElem_cons_succ, List.getElem_cons_zero, List.setIfInBounds_toArray, List.set_cons_zero, List.set_cons_succ])
            refine wpAnyH_take (i := 4) (v := undef) rfl (by kernel_rfl) (by kernel_rfl) (by kernel_rfl) (fun _ _ _ h => h) (Or.inr ⟨by rfl, rfl⟩) hHeld ?_
            (try simp only [Act.put, List.getElem_toArray, List.getElem_cons_succ, List.getElem_cons_zero, List.setIfInBounds_toArray, List.set_cons_zero, List.set_cons_succ])
            refine wpAnyH_take (i := 5) (v := undef) rfl (by kernel_rfl) (by kernel_rfl) (by kernel_rfl) (fun _ _ _ h => h) (Or.inr ⟨by rfl, rfl⟩) hHeld ?_
            (try simp only [Act.put, List.getElem_toArray, List.getElem_cons_succ, List.getElem_cons_zero, List.setIfInBounds_toArray, List.set_cons_zero, List.set_cons_succ])
            refine wpAnyH_take (i := 6) (v := (.bool true)) rfl (by kernel_rfl) (by kernel_rfl) (by kernel_rfl) (fun _ _ _ h => h) (Or.inl ⟨by rfl, fun w hSw => by (go_simp)⟩) hHeld ?_
            (try simp only [Act.put, List.getElem_toArray, List.getElem_cons_succ, List.getElem_cons_zero, List.setIfInBounds_toArray, List.set_cons_zero, List.set_cons_succ])
            refine wpAnyH_take (i := 7) (v := (.bool true)) rfl (by kernel_rfl) (by kernel_rfl) (by kernel_rfl) (fun _ _ _ h => h) (Or.inl ⟨by rfl, fun w hSw => by (go_simp)⟩) hHeld ?_
            (try simp only [Act.put, List.getElem_toArray, List.getElem_cons_succ, List.getElem_cons_zero, List.setIfInBounds_toArray, List.set_cons_zero, List.set_cons_succ])
            refine wpAnyH_take (i := 8) (v := undef) rfl (by kernel_rfl) (by kernel_rfl) (by kernel_rfl) (fun _ _ _ h => h) (Or.inr ⟨by rfl, rfl⟩) hHeld ?_
            (try simp only [Act.put, List.getElem_toArray, List.getElem_cons_succ, List.getElem_cons_zero, List.setIfInBounds_toArray, List.set_cons_zero, List.set_cons_succ])
            refine wpAnyH_take (i := 9) (v := undef) rfl (by kernel_rfl) (by kernel_rfl) (by kernel_rfl) (fun _ _ _ h => h) (Or.inr ⟨by rfl, rfl⟩) hHeld ?_
            (try simp only [Act.put, List.getElem_toArray, List.getElem_cons_succ, List.getElem_cons_zero, List.setIfInBounds_toArray, List.set_cons_zero, List.set_cons_succ])
            refine wpAnyH_take (i := 10) (v := (.bool true)) rfl (by kernel_rfl) (by kernel_rfl) (by kernel_rfl) (fun _ _ _ h => h) (Or.inl ⟨by rfl, fun w hSw => by (go_simp)⟩) hHeld ?_
            (try simp only [Act.put, List.getElem_toArray, List.getElem_cons_succ, List.getElem_cons_zero, List.setIfInBounds_toArray, List.set_cons_zero, List.set_cons_succ])
            refine wpAnyH_take (i := 11) (v := (.bool true)) rfl (by kernel_rfl) (by kernel_rfl) (by kernel_rfl) (fun _ _ _ h => h) (Or.inl ⟨by rfl, fun w hSw => by (go_simp)⟩) hHeld ?_
            (try simp only [Act.put, List.getElem_toArray, List.getElem_cons_succ, List.getElem_cons_zero, List.setIfInBounds_toArray, List.set_cons_zero, List.set_cons_succ])
            refine wpAnyH_take (i := 12) (v := undef) rfl (by kernel_rfl) (by kernel_rfl) (by kernel_rfl) (fun _ _ _ h => h) (Or.inr ⟨by rfl, rfl⟩) hHeld ?_
            (try simp only [Act.put, List.getElem_toArray, List.getElem_cons_succ, List.getElem_cons_zero, List.setIfInBounds_toArray, List.set_cons_zero, List.set_cons_succ])
            refine wpAnyH_take (i := 13) (v := undef) rfl (by kernel_rfl) (by kernel_rfl) (by kernel_rfl) (fun _ _ _ h => h) (Or.inr ⟨by rfl, rfl⟩) hHeld ?_
            (try simp only [Act.put, List.getElem_toArray, List.getElem_cons_succ, List.getElem_cons_zero, List.setIfInBounds_toArray, List.set_cons_zero, List.set_cons_succ])
            refine wpAnyH_take (i := 14) (v := undef) rfl (by kernel_rfl) (by kernel_rfl) (by kernel_rfl) (fun _ _ _ h => h) (Or.inr ⟨by rfl, rfl⟩) hHeld ?_
            (try simp only [Act.put, List.getElem_toArray, List.getElem_cons_succ, List.getElem_cons_zero, List.setIfInBounds_toArray, List.set_cons_zero, List.set_cons_succ])
            refine wpAnyH_take (i := 15) (v := undef) rfl (by kernel_rfl) (by kernel_rfl) (by kernel_rfl) (fun _ _ _ h => h) (Or.inr ⟨by rfl, rfl⟩) hHeld ?_
            (try simp only [Act.put, List.getElem_toArray, List.getElem_cons_succ, List.getElem_cons_zero, List.setIfInBounds_toArray, List.set_cons_zero, List.set_cons_succ])
            refine wpAnyH_take (i := 16) (v := undef) rfl (by kernel_rfl) (by kernel_rfl) (by kernel_rfl) (fun _ _ _ h => h) (Or.inr ⟨by rfl, rfl⟩) hHeld ?_
            (try simp only [Act.put, List.getElem_toArray, List.getElem_cons_succ, List.getElem_cons_zero, List.setIfInBounds_toArray, List.set_cons_zero, List.set_cons_succ])
            refine wpAnyH_take (i := 17) (v := undef) rfl (by kernel_rfl) (by kernel_rfl) (by kernel_rfl) (fun _ _ _ h => h) (Or.inr ⟨by rfl, rfl⟩) hHeld ?_
            (try simp only [Act.put, List.getElem_toArray, List.getElem_cons_succ, List.getElem_cons_zero, List.setIfInBounds_toArray, List.set_cons_zero, List.set_cons_succ])
            refine wpAnyH_take (i := 18) (v := undef) rfl (by kernel_rfl) (by kernel_rfl) (by kernel_rfl) (fun _ _ _ h => h) (Or.inr ⟨by rfl, rfl⟩) hHeld ?_
            (try simp only [Act.put, List.getElem_toArray, List.getElem_cons_succ, List.getElem_cons_zero, List.setIfInBounds_toArray, List.set_cons_zero, List.set_cons_succ])
            refine wpAnyH_take (i := 19) (v := (.bool true)) rfl (by kernel_rfl) (by kernel_rfl) (by kernel_rfl) (fun _ _ _ h => h) (Or.inl ⟨by rfl, fun w hSw => by (go_simp)⟩) hHeld ?_
            (try simp only [Act.put, List.getElem_toArray, List.getElem_cons_succ, List.getElem_cons_zero, List.setIfInBounds_toArray, List.set_cons_zero, List.set_cons_succ])
            refine wpAnyH_take (i := 20) (v := (.bool true)) rfl (by kernel_rfl) (by kernel_rfl) (by kernel_rfl) (fun _ _ _ h => h) (Or.inl ⟨by rfl, fun w hSw => by (go_simp)⟩) hHeld ?_
            (try simp only [Act.put, List.getElem_toArray, List.getElem_cons_succ, List.getElem_cons_zero, List.setIfInBounds_toArray, List.set_cons_zero, List.set_cons_succ])
            refine wpAnyH_done (by kernel_rfl) ?_ _
            go_wp2_with fail
            go_ret
            exact ⟨rfl, bbase HB.out hN⟩
          | true =>
            rw [validN_ok hva] at hVR
            by_cases ht0 : today < 0
            · have k0 : decide (today < 0) = true := decide_eq_true ht0
              go_wp2_with fail
              refine wp_region_held_drew (S := (fun wq => wq.cell? ⟨w.heap.size, 0, none⟩ = some (.int .i64 id) ∧ wq.cell? ⟨w.heap.size, 1, none⟩ = some (.int .i64 iss) ∧ wq.cell? ⟨w.heap.size, 2, none⟩ = some (.int .i64 cls) ∧ wq.cell? ⟨w.heap.size, 3, none⟩ = some (.int .i64 mon) ∧ wq.cell? ⟨w.heap.size, 4, none⟩ = some (.int .i64 en))) (by kernel_rfl) HKa (fun hHeld => ?_)
              refine wpAnyH_take (i := 0) (v := (.agg #[.int .i64 id, .int .i64 iss, .int .i64 cls, .int .i64 mon, .int .i64 en])) rfl (by kernel_rfl) (by kernel_rfl) (by kernel_rfl) (fun _ _ _ h => h) (Or.inl ⟨by rfl, fun w hSw => by (obtain ⟨q0, q1, q2, q3, q4⟩ := hSw; go_simp)⟩) hHeld ?_
              (try simp only [Act.put, List.getElem_toArray, List.getElem_cons_succ, List.getElem_cons_zero, List.setIfInBounds_toArray, List.set_cons_zero, List.set_cons_succ])
              refine wpAnyH_ready (rs := [1]) (by kernel_rfl) (by simp) ?_
              refine AllReadyH.cons rfl (fun K hK => ?_) AllReadyH.nil
              go_simp
              go_wp2_with (go_at_call 49; refine hVR.mono ?_; rintro e w7 ⟨rfl, hb⟩; have HAC := Lib.hid (HAC.out.below hb); have hN := bbase hN hb)
              refine hK.out _ _ ?_ (fun hHeld2 => ?_)
              · exact (show _ from ⟨HAC.out.c0, HAC.out.c1, HAC.out.c2, HAC.out.c3, HAC.out.c4⟩)
              clear hHeld hK K
              have hHeld := hHeld2
              clear hHeld2
              (try simp only [Act.put, List.getElem_toArray, List.getElem_cons_succ, List.getElem_cons_zero, List.setIfInBounds_toArray, List.set_cons_zero, List.set_cons_succ])
              refine wpAnyH_take (i := 2) (v := (.bool false)) rfl (by kernel_rfl) (by kernel_rfl) (by kernel_rfl) (fun _ _ _ h => h) (Or.inl ⟨by rfl, fun w hSw => by (go_simp)⟩) hHeld ?_
              (try simp only [Act.put, List.getElem_toArray, List.getElem_cons_succ, List.getElem_cons_zero, List.setIfInBounds_toArray, List.set_cons_zero, List.set_cons_succ])
              refine wpAnyH_take (i := 3) (v := (.bool false)) rfl (by kernel_rfl) (by kernel_rfl) (by kernel_rfl) (fun _ _ _ h => h) (Or.inl ⟨by rfl, fun w hSw => by (go_simp)⟩) hHeld ?_
              (try simp only [Act.put, List.getElem_toArray, List.getElem_cons_succ, List.getElem_cons_zero, List.setIfInBounds_toArray, List.set_cons_zero, List.set_cons_succ])
              refine wpAnyH_take (i := 4) (v := (.int .i64 today)) rfl (by kernel_rfl) (by kernel_rfl) (by kernel_rfl) (fun _ _ _ h => h) (Or.inl ⟨by rfl, fun w hSw => by (go_simp)⟩) hHeld ?_
              (try simp only [Act.put, List.getElem_toArray, List.getElem_cons_succ, List.getElem_cons_zero, List.setIfInBounds_toArray, List.set_cons_zero, List.set_cons_succ])
              refine wpAnyH_take (i := 5) (v := (.bool true)) rfl (by kernel_rfl) (by kernel_rfl) (by kernel_rfl) (fun _ _ _ h => h) (Or.inl ⟨by rfl, fun w hSw => by (go_simp)⟩) hHeld ?_
              (try simp only [Act.put, List.getElem_toArray, List.getElem_cons_succ, List.getElem_cons_zero, List.setIfInBounds_toArray, List.set_cons_zero, List.set_cons_succ])
              refine wpAnyH_take (i := 6) (v := (.bool true)) rfl (by kernel_rfl) (by kernel_rfl) (by kernel_rfl) (fun _ _ _ h => h) (Or.inl ⟨by rfl, fun w hSw => by (go_simp)⟩) hHeld ?_
              (try simp only [Act.put, List.getElem_toArray, List.getElem_cons_succ, List.getElem_cons_zero, List.setIfInBounds_toArray, List.set_cons_zero, List.set_cons_succ])
              refine wpAnyH_take (i := 7) (v := (.bool true)) rfl (by kernel_rfl) (by kernel_rfl) (by kernel_rfl) (fun _ _ _ h => h) (Or.inl ⟨by rfl, fun w hSw => by (go_simp)⟩) hHeld ?_
              (try simp only [Act.put, List.getElem_toArray, List.getElem_cons_succ, List.getElem_cons_zero, List.setIfInBounds_toArray, List.set_cons_zero, List.set_cons_succ])
              refine wpAnyH_take (i := 8) (v := undef) rfl (by kernel_rfl) (by kernel_rfl) (by kernel_rfl) (fun _ _ _ h => h) (Or.inr ⟨by rfl, rfl⟩) hHeld ?_
              (try simp only [Act.put, List.getElem_toArray, List.getElem_cons_succ, List.getElem_cons_zero, List.setIfInBounds_toArray, List.set_cons_zero, List.set_cons_succ])
              refine wpAnyH_take (i := 9) (v := undef) rfl (by kernel_rfl) (by kernel_rfl) (by kernel_rfl) (fun _ _ _ h => h) (Or.inr ⟨by rfl, rfl⟩) hHeld ?_
              (try simp only [Act.put, List.getElem_toArray, List.getElem_cons_succ, List.getElem_cons_zero, List.setIfInBounds_toArray, List.set_cons_zero, List.set_cons_succ])
              refine wpAnyH_take (i := 10) (v := (.bool true)) rfl (by kernel_rfl) (by kernel_rfl) (by kernel_rfl) (fun _ _ _ h => h) (Or.inl ⟨by rfl, fun w hSw => by (go_simp)⟩) hHeld ?_
              (try simp only [Act.put, List.getElem_toArray, List.getElem_cons_succ, List.getElem_cons_zero, List.setIfInBounds_toArray, List.set_cons_zero, List.set_cons_succ])
              refine wpAnyH_take (i := 11) (v := (.bool true)) rfl (by kernel_rfl) (by kernel_rfl) (by kernel_rfl) (fun _ _ _ h => h) (Or.inl ⟨by rfl, fun w hSw => by (go_simp)⟩) hHeld ?_
              (try simp only [Act.put, List.getElem_toArray, List.getElem_cons_succ, List.getElem_cons_zero, List.setIfInBounds_toArray, List.set_cons_zero, List.set_cons_succ])
              refine wpAnyH_take (i := 12) (v := undef) rfl (by kernel_rfl) (by kernel_rfl) (by kernel_rfl) (fun _ _ _ h => h) (Or.inr ⟨by rfl, rfl⟩) hHeld ?_
              (try simp only [Act.put, List.getElem_toArray, List.getElem_cons_succ, List.getElem_cons_zero, List.setIfInBounds_toArray, List.set_cons_zero, List.set_cons_succ])
              refine wpAnyH_take (i := 13) (v := undef) rfl (by kernel_rfl) (by kernel_rfl) (by kernel_rfl) (fun _ _ _ h => h) (Or.inr ⟨by rfl, rfl⟩) hHeld ?_
              (try simp only [Act.put, List.getElem_toArray, List.getElem_cons_succ, List.getElem_cons_zero, List.setIfInBounds_toArray, List.set_cons_zero, List.set_cons_succ])
              refine wpAnyH_take (i := 14) (v := undef) rfl (by kernel_rfl) (by kernel_rfl) (by kernel_rfl) (fun _ _ _ h => h) (Or.inr ⟨by rfl, rfl⟩) hHeld ?_
              (try simp only [Act.put, List.getElem_toArray, List.getElem_cons_succ, List.getElem_cons_zero, List.setIfInBounds_toArray, List.set_cons_zero, List.set_cons_succ])
              refine wpAnyH_take (i := 15) (v := undef) rfl (by kernel_rfl) (by kernel_rfl) (by kernel_rfl) (fun _ _ _ h => h) (Or.inr ⟨by rfl, rfl⟩) hHeld ?_
              (try simp only [Act.put, List.getElem_toArray, List.getElem_cons_succ, List.getElem_cons_zero, List.setIfInBounds_toArray, List.set_cons_zero, List.set_cons_succ])
              refine wpAnyH_take (i := 16) (v := undef) rfl (by kernel_rfl) (by kernel_rfl) (by kernel_rfl) (fun _ _ _ h => h) (Or.inr ⟨by rfl, rfl⟩) hHeld ?_
              (try simp only [Act.put, List.getElem_toArray, List.getElem_cons_succ, List.getElem_cons_zero, List.setIfInBounds_toArray, List.set_cons_zero, List.set_cons_succ])
              refine wpAnyH_take (i := 17) (v := undef) rfl (by kernel_rfl) (by kernel_rfl) (by kernel_rfl) (fun _ _ _ h => h) (Or.inr ⟨by rfl, rfl⟩) hHeld ?_
              (try simp only [Act.put, List.getElem_toArray, List.getElem_cons_succ, List.getElem_cons_zero, List.setIfInBounds_toArray, List.set_cons_zero, List.set_cons_succ])
              refine wpAnyH_take (i := 18) (v := undef) rfl (by kernel_rfl) (by kernel_rfl) (by kernel_rfl) (fun _ _ _ h => h) (Or.inr ⟨by rfl, rfl⟩) hHeld ?_
              (try simp only [Act.put, List.getElem_toArray, List.getElem_cons_succ, List.getElem_cons_zero, List.setIfInBounds_toArray, List.set_cons_zero, List.set_cons_succ])
              refine wpAnyH_take (i := 19) (v := (.bool true)) rfl (by kernel_rfl) (by kernel_rfl) (by kernel_rfl) (fun _ _ _ h => h) (Or.inl ⟨by rfl, fun w hSw => by (go_simp)⟩) hHeld ?_
              (try simp only [Act.put, List.getElem_toArray, List.getElem_cons_succ, List.getElem_cons_zero, List.setIfInBounds_toArray, List.set_cons_zero, List.set_cons_succ])
              refine wpAnyH_take (i := 20) (v := (.bool true)) rfl (by kernel_rfl) (by kernel_rfl) (by kernel_rfl) (fun _ _ _ h => h) (Or.inl ⟨by rfl, fun w hSw => by (go_simp)⟩) hHeld ?_
              (try simp only [Act.put, List.getElem_toArray, List.getElem_cons_succ, List.getElem_cons_zero, List.setIfInBounds_toArray, List.set_cons_zero, List.set_cons_succ])
              refine wpAnyH_done (by kernel_rfl) ?_ _
              go_wp2_with fail
              go_ret
              exact ⟨rfl, bbase HB.out hN⟩
            · have k0 : decide (today < 0) = false := decide_eq_false ht0
              by_cases ht1 : 40000 < today
              · have k1 : decide (40000 < today) = true := decide_eq_true ht1
                go_wp2_with fail
                refine wp_region_held_drew (S := (fun wq => wq.cell? ⟨w.heap.size, 0, none⟩ = some (.int .i64 id) ∧ wq.cell? ⟨w.heap.size, 1, none⟩ = some (.int .i64 iss) ∧ wq.cell? ⟨w.heap.size, 2, none⟩ = some (.int .i64 cls) ∧ wq.cell? ⟨w.heap.size, 3, none⟩ = some (.int .i64 mon) ∧ wq.cell? ⟨w.heap.size, 4, none⟩ = some (.int .i64 en))) (by kernel_rfl) HKa (fun hHeld => ?_)
                refine wpAnyH_take (i := 0) (v := (.agg #[.int .i64 id, .int .i64 iss, .int .i64 cls, .int .i64 mon, .int .i64 en])) rfl (by kernel_rfl) (by kernel_rfl) (by kernel_rfl) (fun _ _ _ h => h) (Or.inl ⟨by rfl, fun w hSw => by (obtain ⟨q0, q1, q2, q3, q4⟩ := hSw; go_simp)⟩) hHeld ?_
                (try simp only [Act.put, List.getElem_toArray, List.getElem_cons_succ, List.getElem_cons_zero, List.setIfInBounds_toArray, List.set_cons_zero, List.set_cons_succ])
                refine wpAnyH_ready (rs := [1]) (by kernel_rfl) (by simp) ?_
                refine AllReadyH.cons rfl (fun K hK => ?_) AllReadyH.nil
                go_simp
                go_wp2_with (go_at_call 49; refine hVR.mono ?_; rintro e w7 ⟨rfl, hb⟩; have HAC := Lib.hid (HAC.out.below hb); have hN := bbase hN hb)
                refine hK.out _ _ ?_ (fun hHeld2 => ?_)
                · exact (show _ from ⟨HAC.out.c0, HAC.out.c1, HAC.out.c2, HAC.out.c3, HAC.out.c4⟩)
                clear hHeld hK K
                have hHeld := hHeld2
                clear hHeld2
                (try simp only [Act.put, List.getElem_toArray, List.getElem_cons_succ, List.getElem_cons_zero, List.setIfInBounds_toArray, List.set_cons_zero, List.set_cons_succ])
                refine wpAnyH_take (i := 2) (v := (.bool false)) rfl (by kernel_rfl) (by kernel_rfl) (by kernel_rfl) (fun _ _ _ h => h) (Or.inl ⟨by rfl, fun w hSw => by (go_simp)⟩) hHeld ?_
                (try simp only [Act.put, List.getElem_toArray, List.getElem_cons_succ, List.getElem_cons_zero, List.setIfInBounds_toArray, List.set_cons_zero, List.set_cons_succ])
                refine wpAnyH_take (i := 3) (v := (.bool false)) rfl (by kernel_rfl) (by kernel_rfl) (by kernel_rfl) (fun _ _ _ h => h) (Or.inl ⟨by rfl, fun w hSw => by (go_simp)⟩) hHeld ?_
                (try simp only [Act.put, List.getElem_toArray, List.getElem_cons_succ, List.getElem_cons_zero, List.setIfInBounds_toArray, List.set_cons_zero, List.set_cons_succ])
                refine wpAnyH_take (i := 4) (v := (.int .i64 today)) rfl (by kernel_rfl) (by kernel_rfl) (by kernel_rfl) (fun _ _ _ h => h) (Or.inl ⟨by rfl, fun w hSw => by (go_simp)⟩) hHeld ?_
                (try simp only [Act.put, List.getElem_toArray, List.getElem_cons_succ, List.getElem_cons_zero, List.setIfInBounds_toArray, List.set_cons_zero, List.set_cons_succ])
                refine wpAnyH_take (i := 5) (v := (.bool false)) rfl (by kernel_rfl) (by kernel_rfl) (by kernel_rfl) (fun _ _ _ h => h) (Or.inl ⟨by rfl, fun w hSw => by (go_simp)⟩) hHeld ?_
                (try simp only [Act.put, List.getElem_toArray, List.getElem_cons_succ, List.getElem_cons_zero, List.setIfInBounds_toArray, List.set_cons_zero, List.set_cons_succ])
                refine wpAnyH_take (i := 6) (v := (.bool false)) rfl (by kernel_rfl) (by kernel_rfl) (by kernel_rfl) (fun _ _ _ h => h) (Or.inl ⟨by rfl, fun w hSw => by (go_simp)⟩) hHeld ?_
                (try simp only [Act.put, List.getElem_toArray, List.getElem_cons_succ, List.getElem_cons_zero, List.setIfInBounds_toArray, List.set_cons_zero, List.set_cons_succ])
                refine wpAnyH_take (i := 7) (v := (.bool false)) rfl (by kernel_rfl) (by kernel_rfl) (by kernel_rfl) (fun _ _ _ h => h) (Or.inl ⟨by rfl, fun w hSw => by (go_simp)⟩) hHeld ?_
                (try simp only [Act.put, List.getElem_toArray, List.getElem_cons_succ, List.getElem_cons_zero, List.setIfInBounds_toArray, List.set_cons_zero, List.set_cons_succ])
                refine wpAnyH_take (i := 8) (v := (.int .i64 today)) rfl (by kernel_rfl) (by kernel_rfl) (by kernel_rfl) (fun _ _ _ h => h) (Or.inl ⟨by rfl, fun w hSw => by (go_simp)⟩) hHeld ?_
                (try simp only [Act.put, List.getElem_toArray, List.getElem_cons_succ, List.getElem_cons_zero, List.setIfInBounds_toArray, List.set_cons_zero, List.set_cons_succ])
                refine wpAnyH_take (i := 9) (v := (.bool true)) rfl (by kernel_rfl) (by kernel_rfl) (by kernel_rfl) (fun _ _ _ h => h) (Or.inl ⟨by rfl, fun w hSw => by (go_simp)⟩) hHeld ?_
                (try simp only [Act.put, List.getElem_toArray, List.getElem_cons_succ, List.getElem_cons_zero, List.setIfInBounds_toArray, List.set_cons_zero, List.set_cons_succ])
                refine wpAnyH_take (i := 10) (v := (.bool true)) rfl (by kernel_rfl) (by kernel_rfl) (by kernel_rfl) (fun _ _ _ h => h) (Or.inl ⟨by rfl, fun w hSw => by (go_simp)⟩) hHeld ?_
                (try simp only [Act.put, List.getElem_toArray, List.getElem_cons_succ, List.getElem_cons_zero, List.setIfInBounds_toArray, List.set_cons_zero, List.set_cons_succ])
                refine wpAnyH_take (i := 11) (v := (.bool true)) rfl (by kernel_rfl) (by kernel_rfl) (by kernel_rfl) (fun _ _ _ h => h) (Or.inl ⟨by rfl, fun w hSw => by (go_simp)⟩) hHeld ?_
                (try simp only [Act.put, List.getElem_toArray, List.getElem_cons_succ, List.getElem_cons_zero, List.setIfInBounds_toArray, List.set_cons_zero, List.set_cons_succ])
                refine wpAnyH_take (i := 12) (v := undef) rfl (by kernel_rfl) (by kernel_rfl) (by kernel_rfl) (fun _ _ _ h => h) (Or.inr ⟨by rfl, rfl⟩) hHeld ?_
                (try simp only [Act.put, List.getElem_toArray, List.getElem_cons_succ, List.getElem_cons_zero, List.setIfInBounds_toArray, List.set_cons_zero, List.set_cons_succ])
                refine wpAnyH_take (i := 13) (v := undef) rfl (by kernel_rfl) (by kernel_rfl) (by kernel_rfl) (fun _ _ _ h => h) (Or.inr ⟨by rfl, rfl⟩) hHeld ?_
                (try simp only [Act.put, List.getElem_toArray, List.getElem_cons_succ, List.getElem_cons_zero, List.setIfInBounds_toArray, List.set_cons_zero, List.set_cons_succ])
                refine wpAnyH_take (i := 14) (v := undef) rfl (by kernel_rfl) (by kernel_rfl) (by kernel_rfl) (fun _ _ _ h => h) (Or.inr ⟨by rfl, rfl⟩) hHeld ?_
                (try simp only [Act.put, List.getElem_toArray, List.getElem_cons_succ, List.getElem_cons_zero, List.setIfInBounds_toArray, List.set_cons_zero, List.set_cons_succ])
                refine wpAnyH_take (i := 15) (v := undef) rfl (by kernel_rfl) (by kernel_rfl) (by kernel_rfl) (fun _ _ _ h => h) (Or.inr ⟨by rfl, rfl⟩) hHeld ?_
                (try simp only [Act.put, List.getElem_toArray, List.getElem_cons_succ, List.getElem_cons_zero, List.setIfInBounds_toArray, List.set_cons_zero, List.set_cons_succ])
                refine wpAnyH_take (i := 16) (v := undef) rfl (by kernel_rfl) (by kernel_rfl) (by kernel_rfl) (fun _ _ _ h => h) (Or.inr ⟨by rfl, rfl⟩) hHeld ?_
                (try simp only [Act.put, List.getElem_toArray, List.getElem_cons_succ, List.getElem_cons_zero, List.setIfInBounds_toArray, List.set_cons_zero, List.set_cons_succ])
                refine wpAnyH_take (i := 17) (v := undef) rfl (by kernel_rfl) (by kernel_rfl) (by kernel_rfl) (fun _ _ _ h => h) (Or.inr ⟨by rfl, rfl⟩) hHeld ?_
                (try simp only [Act.put, List.getElem_toArray, List.getElem_cons_succ, List.getElem_cons_zero, List.setIfInBounds_toArray, List.set_cons_zero, List.set_cons_succ])
                refine wpAnyH_take (i := 18) (v := undef) rfl (by kernel_rfl) (by kernel_rfl) (by kernel_rfl) (fun _ _ _ h => h) (Or.inr ⟨by rfl, rfl⟩) hHeld ?_
                (try simp only [Act.put, List.getElem_toArray, List.getElem_cons_succ, List.getElem_cons_zero, List.setIfInBounds_toArray, List.set_cons_zero, List.set_cons_succ])
                refine wpAnyH_take (i := 19) (v := (.bool true)) rfl (by kernel_rfl) (by kernel_rfl) (by kernel_rfl) (fun _ _ _ h => h) (Or.inl ⟨by rfl, fun w hSw => by (go_simp)⟩) hHeld ?_
                (try simp only [Act.put, List.getElem_toArray, List.getElem_cons_succ, List.getElem_cons_zero, List.setIfInBounds_toArray, List.set_cons_zero, List.set_cons_succ])
                refine wpAnyH_take (i := 20) (v := (.bool true)) rfl (by kernel_rfl) (by kernel_rfl) (by kernel_rfl) (fun _ _ _ h => h) (Or.inl ⟨by rfl, fun w hSw => by (go_simp)⟩) hHeld ?_
                (try simp only [Act.put, List.getElem_toArray, List.getElem_cons_succ, List.getElem_cons_zero, List.setIfInBounds_toArray, List.set_cons_zero, List.set_cons_succ])
                refine wpAnyH_done (by kernel_rfl) ?_ _
                go_wp2_with fail
                go_ret
                exact ⟨rfl, bbase HB.out hN⟩
              · have k1 : decide (40000 < today) = false := decide_eq_false ht1
                clear ht0 ht1
                have HO1 : Hid (∀ w', Errs (List.range 21) w.heap.size p w' → LadR w' lb r m fx → Calls Tryd.prog 44 #[.pointer (some ⟨lb, 0, none⟩), .agg #[.int .i64 id, .int .i64 iss, .int .i64 cls, .int .i64 mon, .int .i64 en], .int .i64 today] w' fun e w'' => e = .returned (.int .i64 (ofN m fx id iss cls mon en today)) ∧ Below w'.heap.size w' w'') := fun w' hE h => cutOf_calls hE (by decide) h.cmap h.cfx h.map h.fxb h.bd id iss cls mon en today
                have HO2 : Hid (∀ w', Arr w' (lb + 1) 73 (cutsF m fx) → LadR w' lb r m fx → Calls Tryd.prog 50 #[.pointer (some ⟨lb + 1, 0, none⟩), .agg #[.int .i64 id, .int .i64 iss, .int .i64 cls, .int .i64 mon, .int .i64 en], .int .i64 today] w' fun e w'' => e = .returned (.int .i64 (ofN m fx id iss cls mon en today)) ∧ Below w'.heap.size w' w'') := fun w' h1 h => cutsRefOf_calls h1 HKC.out h.bd h.fxb id iss cls mon en today hva
                generalize ofN m fx id iss cls mon en today = ov at HO1 HO2
                go_wp2_with fail
                go_region_held3 (fun wq => wq.cell? ⟨w.heap.size, 0, none⟩ = some (.int .i64 id) ∧ wq.cell? ⟨w.heap.size, 1, none⟩ = some (.int .i64 iss) ∧ wq.cell? ⟨w.heap.size, 2, none⟩ = some (.int .i64 cls) ∧ wq.cell? ⟨w.heap.size, 3, none⟩ = some (.int .i64 mon) ∧ wq.cell? ⟨w.heap.size, 4, none⟩ = some (.int .i64 en))
                  (exact ⟨HAC.out.c0, HAC.out.c1, HAC.out.c2, HAC.out.c3, HAC.out.c4⟩)
                  (first
                    | (go_at_call 49; go_loud (refine hVR.mono ?_); go_loud (rintro e w7 ⟨rfl, hb⟩; have hs7 := hb.size; have HL := Lib.hid (HL.out.below hb); have HY := Lib.hid (HY.out.below (by omega) hb); have HAC := Lib.hid (HAC.out.below hb); have hN := bbase hN hb))
                    | (go_at_call 44; go_loud (refine (HO1.out _ (HE.out.below (bbase HB.out hN)) HL.out).mono ?_); go_loud (rintro e w8 ⟨rfl, hb⟩; have hs8 := hb.size; have HL := Lib.hid (HL.out.below hb); have HY := Lib.hid (HY.out.below (by omega) hb); have HAC := Lib.hid (HAC.out.below hb); have hN := bbase hN hb))
                    | (go_at_call 50; go_loud (refine (HO2.out _ HY.out HL.out).mono ?_); go_loud (rintro e w9 ⟨rfl, hb⟩; have HAC := Lib.hid (HAC.out.below hb); have hN := bbase hN hb)))
                go_wp2_with fail
                go_ret
                exact ⟨rfl, bbase HB.out hN⟩
end Go.Proofs.YtehacchacgfjlaaDoor
