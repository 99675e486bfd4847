/- The walk of pledgelaw10.AssetOrder: it returns true, and writes nothing that was there. -/
import Derived.Test.YtfecgcdceegdlaaDoorAssetLaw
import Derived.Test.YtfecgcdceegdlaaDoorOf
import Derived.Test.YtfecgcdceegdlaaDoorFirst10
import Derived.Test.YtfecgcdceegdlaaDoorMaster0
import Derived.Test.YtfecgcdceegdlaaDoorSee
import Derived.Test.YtfecgcdceegdlaaDoorNum
namespace Go.Proofs.YtfecgcdceegdlaaDoor
open Go.Maps
open Go Go.RowKit
set_option linter.unusedSimpArgs false
set_option linter.unusedVariables false

theorem step_cell (w : World) (q : Nat) (hq : q < 5) : ∃ s, (w.alloc (Obj.cells #[.int .i64 1, .int .i64 5, .int .i64 7, .int .i64 11, .int .i64 35] 3)).cell? ⟨w.heap.size, q, none⟩ = some (.int .i64 s) ∧ 1 ≤ s ∧ s ≤ 35 := by
  have : q = 0 ∨ q = 1 ∨ q = 2 ∨ q = 3 ∨ q = 4 := by omega
  rcases this with rfl | rfl | rfl | rfl | rfl
  · exact ⟨1, by go_simp, by decide, by decide⟩
  · exact ⟨5, by go_simp, by decide, by decide⟩
  · exact ⟨7, by go_simp, by decide, by decide⟩
  · exact ⟨11, by go_simp, by decide, by decide⟩
  · exact ⟨35, by go_simp, by decide, by decide⟩

/-- The master after k rounds. -/
def OrdAt (lo : Nat) (w : World) (b : Nat) (n s : Int) (k : Nat) : Prop :=
  ∃ r, w.cell? ⟨b, 0, none⟩ = some (.map r) ∧ w.frozen? ⟨b, 0, none⟩ = false ∧ AssetMap w r (ordM n s k) ∧ ∀ mb, r = some mb → lo ≤ mb ∧ mb ≠ b

theorem ord_valid {n s : Int} (h1 : 1 ≤ n) (h2 : n ≤ 32) (hs : 0 ≤ s) (k : Nat) : validA (ordA n s k).1 (ordA n s k).2.1 (ordA n s k).2.2.1 (ordA n s k).2.2.2.1 (ordA n s k).2.2.2.2 = true := by
  have h := key_pos (show 0 < n by omega) hs k
  simp only [ordA, validA, decide_eq_true_eq]
  omega
theorem add_ord {ks : List Nat} {B : Nat} {p : Nat → Addr} {w : World} (hE : Errs ks B p w) (k2 : 2 ∈ ks) (k6 : 6 ∈ ks) {lo b : Nat} {n s : Int} {k : Nat} (hT : OrdAt lo w b n s k) (hlo : lo ≤ w.heap.size) (hlb : lo ≤ b) (h1 : 1 ≤ n) (h2 : n ≤ 32) (hs : 0 ≤ s) :
    Calls Tryd.prog 17 #[.pointer (some ⟨b, 0, none⟩), astV (ordA n s k)] w fun e w' => e = .returned (if thereB n s k k then ev p 6 else .nilIface) ∧ OrdAt lo w' b n s (k + 1) ∧ Below lo w w' := by
  have hv := ord_valid h1 h2 hs k
  obtain ⟨r, hc, hf, hm, hr⟩ := hT
  have hb := World.block_lt_of_cell? w _ hc
  cases ht : thereB n s k k with
  | true =>
    have hi := ht
    rw [thereB_eq] at hi
    refine (masterAdd_there hE k2 k6 hc hm (ordA n s k) hv hi).mono ?_
    rintro e w' ⟨rfl, hb'⟩
    refine ⟨rfl, ⟨r, (hb'.cell hb).trans hc, (hb'.frozen hb).trans hf, ?_, hr⟩, hb'.mono hlo⟩
    rw [ordM, if_pos hi]
    exact hm.below hb'
  | false =>
    have hi := ht
    rw [thereB_eq] at hi
    by_cases hne : ordM n s k = []
    · rw [hne] at hm
      refine (masterAdd_none hE k2 hc hf hm (ordA n s k) hv).mono ?_
      rintro e w' ⟨rfl, nb, hm', hc', hf', hnb, hk'⟩
      refine ⟨rfl, ⟨some nb, hc', hf', ?_, fun mb h => by cases h; exact ⟨Nat.le_trans hlo hnb, by have : b < w.heap.size := hb; omega⟩⟩, hk'.below hlo fun x hx e => by omega⟩
      rw [ordM, if_neg (by rw [hi]; simp), hne]
      exact hm'
    · obtain ⟨mb, rfl⟩ : ∃ mb, r = some mb := by
        rcases hm with ⟨_, h⟩ | ⟨mb, h, _⟩
        · exact absurd h hne
        · exact ⟨mb, h⟩
      have hmb := hr mb rfl
      refine (masterAdd_some hE k2 hc hm hne (ordA n s k) hv hi).mono ?_
      rintro e w' ⟨rfl, hm', hk'⟩
      refine ⟨rfl, ⟨some mb, (hk'.cell hb (fun e => hmb.2 e.symm)).trans hc, (hk'.frozen hb (fun e => hmb.2 e.symm)).trans hf, ?_, hr⟩, hk'.below hlo fun x hx e => by omega⟩
      rw [ordM, if_neg (by rw [hi]; simp)]
      exact hm'
theorem OrdAt.below {lo b : Nat} {w w' : World} {n s : Int} {k : Nat} (h : OrdAt lo w b n s k) (hb : Below w.heap.size w w') : OrdAt lo w' b n s k := by
  obtain ⟨r, hc, hf, hm, hr⟩ := h
  have hlt := World.block_lt_of_cell? w _ hc
  exact ⟨r, (hb.cell hlt).trans hc, (hb.frozen hlt).trans hf, hm.below hb, hr⟩

set_option maxHeartbeats 4000000 in
set_option maxRecDepth 100000 in
theorem walk_AssetOrder {p : Nat → Addr} {w : World} (hE : Errs (List.range 21) w.heap.size p w) (n step : Int) (l0 : -9223372036854775808 ≤ n) (u0 : n ≤ 9223372036854775807) (l1 : -9223372036854775808 ≤ step) (u1 : step ≤ 9223372036854775807) :
    Calls Tryd.prog 3 #[.int .i64 n, .int .i64 step] w fun e w' => e = .returned (.bool true) ∧ Below w.heap.size w w' := by
  have HE := Lib.hid hE; clear hE
  go_enter Tryd.func3, Tryd.ntmps3
  go_wp2_with fail
  refine (first10_calls w).mono ?_
  rintro e w1 ⟨rfl, hb1⟩
  go_wp2_with fail
  refine (number_calls n 32 (by decide) (by decide) w1).mono ?_
  rintro e _ ⟨rfl, rfl⟩
  have hn1 := Int.emod_nonneg n (show (32 : Int) ≠ 0 by decide)
  have hn2 := Int.emod_lt_of_pos n (show (0 : Int) < 32 by decide)
  generalize n % 32 = N at hn1 hn2 ⊢
  go_wp2_with fail
  refine (number_calls step 5 (by decide) (by decide) _).mono ?_
  rintro e _ ⟨rfl, rfl⟩
  have hq1 := Int.emod_nonneg step (show (5 : Int) ≠ 0 by decide)
  have hq2 := Int.emod_lt_of_pos step (show (0 : Int) < 5 by decide)
  obtain ⟨q, hq⟩ : ∃ q : Nat, step % 5 = q := ⟨(step % 5).toNat, by omega⟩
  rw [hq] at hq1 hq2 ⊢
  obtain ⟨s, hs, hs1, hs2⟩ := step_cell w1 q (by omega)
  clear hq
  have hs1' := hb1.size
  go_wp2_with fail
  obtain ⟨w2, hw2⟩ : ∃ w2, w2 = (w1.alloc (Obj.cells #[.int .i64 1, .int .i64 5, .int .i64 7, .int .i64 11, .int .i64 35] 3)).alloc (Obj.cells #[.map none] 27) := ⟨_, rfl⟩
  have HT2 : Hid (OrdAt w.heap.size w2 (w1.heap.size + 1) (N + 1) s 0) := by
    rw [hw2]
    exact ⟨none, by go_simp, by go_simp, .inl ⟨rfl, rfl⟩, fun b h => by cases h⟩
  have HB2 : Hid (Below w.heap.size w w2) := by rw [hw2]; unfold Hid; (repeat (first | exact Below.refl _ _ | assumption | refine Below.drew ?_ | refine below_many ?_ _ | refine Below.alloc ?_ (by first | (simp; done) | (simp; omega) | omega) _ | refine Below.setCell ?_ (by first | (simp; done) | (simp; omega) | omega) _))
  rw [← hw2]
  have hz : ((N + 1 : Int) == 0) = false := by simp; omega
  have hw2s : w1.heap.size + 1 < w2.heap.size := by rw [hw2]; simp
  have htb : w.heap.size ≤ w1.heap.size + 1 := by omega
  generalize w1.heap.size + 1 = tb at HT2 hw2s htb ⊢
  clear hw2 hs hb1 hs1' hq1 hq2
  go_loopw [7] (fun i wr => ∃ k : Nat, (k : Int) ≤ N + 1 ∧ i = .int .i64 k ∧ Hid (OrdAt w.heap.size wr tb (N + 1) s k) ∧ Hid (Below w.heap.size w wr) ∧ tb < wr.heap.size) (fun i _ => (N + 1).toNat - (intOf i).toNat)
  case atStart => exact ⟨0, by omega, rfl, HT2, HB2, hw2s⟩
  case round =>
    obtain ⟨k, hk, rfl, hT, hB, htw⟩ := hrel
    by_cases hkl : (k : Int) < N + 1
    · have hm0 : 0 ≤ (k : Int) * s := Int.mul_nonneg (by omega) (by omega)
      have hm1 : (k : Int) * s ≤ 32 * 35 := Int.mul_le_mul (by omega) (by omega) (by omega) (by omega)
      have hsr := hB.out.size
      have ht0 := Int.emod_nonneg ((k : Int) * s) (show N + 1 ≠ 0 by omega)
      have ht1 := Int.emod_lt_of_pos ((k : Int) * s) (show 0 < N + 1 by omega)
      have hkey : Hid (keyAt (N + 1) s k = ((k : Int) * s) % (N + 1) + 1) := rfl
      go_wp2_with fail
      obtain ⟨wb, hwb⟩ : ∃ wb, wb = wr := ⟨_, rfl⟩
      subst hwb
      go_loopw [10, 9] (fun j u wq => ∃ q : Nat, q ≤ k ∧ j = .int .i64 q ∧ u = .bool (thereB (N + 1) s k q) ∧ Hid (Below (wb.heap.size + 1) (wb.alloc (Obj.cells #[.int .i64 (((k : Int) * s) % (N + 1) + 1), .int .i64 ((k : Int) % 3), .int .i64 2, .int .i64 1, .int .i64 0] 29)) wq)) (fun j _ _ => k - (intOf j).toNat)
      case atStart => exact ⟨0, Nat.zero_le _, rfl, rfl, Below.refl _ _⟩
      case round =>
        obtain ⟨j, hj, rfl, rfl, hBj⟩ := hrel
        by_cases hjk : j < k
        · have hp0 : 0 ≤ (j : Int) * s := Int.mul_nonneg (by omega) (by omega)
          have hp1 : (j : Int) * s ≤ 32 * 35 := Int.mul_le_mul (by omega) (by omega) (by omega) (by omega)
          have HTh : Hid (thereB (N + 1) s k (j + 1) = (thereB (N + 1) s k j || decide (((j : Int) * s) % (N + 1) = ((k : Int) * s) % (N + 1)))) := rfl
          generalize thereB (N + 1) s k j = q1 at HTh ⊢
          have hBj' : ∀ nq, Hid (Below (wb.heap.size + 1) (wb.alloc (Obj.cells #[.int .i64 (((k : Int) * s) % (N + 1) + 1), .int .i64 ((k : Int) % 3), .int .i64 2, .int .i64 1, .int .i64 0] 29)) (wr.drewN nq)) := fun nq => below_many hBj.out nq
          cases q1
          · go_wp2_with fail
            go_quiet (fail)
            go_wp2_with fail
            go_roundw
            case rel => exact ⟨j + 1, by omega, by go_num, by rw [HTh.out]; rfl, hBj' _⟩
            case measure => simp [intOf]; omega
          · go_wp2_with fail
            go_quiet (fail)
            go_wp2_with fail
            go_roundw
            case rel => exact ⟨j + 1, by omega, by go_num, by rw [HTh.out]; rfl, hBj' _⟩
            case measure => simp [intOf]; omega
        · have hjk' : j = k := by omega
          subst hjk'
          have hsj := hBj.out.size
          have hr : ∀ i u, (wb.alloc (Obj.cells #[.int .i64 (((j : Int) * s) % (N + 1) + 1), .int .i64 ((j : Int) % 3), .int .i64 2, .int .i64 1, .int .i64 0] 29)).cell? ⟨wb.heap.size, i, none⟩ = some u → wr.cell? ⟨wb.heap.size, i, none⟩ = some u := fun i u hu => (hBj.out.cell (p := ⟨wb.heap.size, i, none⟩) (by simp only; omega)).trans hu
          have r0 := hr 0 (.int .i64 (((j : Int) * s) % (N + 1) + 1)) (by go_simp)
          have r1 := hr 1 (.int .i64 ((j : Int) % 3)) (by go_simp)
          have r2 := hr 2 (.int .i64 2) (by go_simp)
          have r3 := hr 3 (.int .i64 1) (by go_simp)
          have r4 := hr 4 (.int .i64 0) (by go_simp)
          have hBa : Below wb.heap.size wb wr := Below.trans (show Below wb.heap.size wb _ by (repeat (first | exact Below.refl _ _ | assumption | refine Below.drew ?_ | refine below_many ?_ _ | refine Below.alloc ?_ (by first | (simp; done) | (simp; omega) | omega) _ | refine Below.setCell ?_ (by first | (simp; done) | (simp; omega) | omega) _))) (hBj.out.mono (by omega))
          have hBw := hB.out.trans (hBa.mono hsr)
          have hsw := hBw.size
          clear hr
          go_wp2_with fail
          refine (add_ord (HE.out.below hBw) (by decide) (by decide) (n := N + 1) (s := s) (k := j) (hT.out.below hBa) hsw htb (by omega) (by omega) (by omega)).mono ?_
          rintro e w4 ⟨rfl, hT4, hB4⟩
          have HT4 := Lib.hid hT4
          have HB4 : Hid (Below w.heap.size w w4) := hBw.trans hB4
          have hs4 : tb < w4.heap.size := Nat.lt_of_lt_of_le htw (Nat.le_trans hBa.size hB4.size)
          clear hT4 hB4 hBa hBw r0 r1 r2 r3 r4 hT hB hBj
          generalize thereB (N + 1) s j j = q1
          cases q1
          · go_wp2_with fail
            go_roundw
            case rel => exact ⟨j + 1, by omega, by go_num, HT4, HB4, hs4⟩
            case measure => simp [intOf]; omega
          · rw [if_pos rfl, show ev p 6 = Value.iface 230 (.pointer (some (p 6))) from rfl]
            go_wp2_with fail
            refine (is_ev (HE.out.below HB4.out) (k := 6) (by decide) 107).mono ?_
            rintro e w5 ⟨rfl, hb5⟩
            rw [show ((101 + ((6 : Nat) : Int)) == 107) = true from rfl]
            have HT5 := Lib.hid (HT4.out.below hb5)
            have HB5 : Hid (Below w.heap.size w w5) := HB4.out.trans (hb5.mono HB4.out.size)
            have hs5 := Nat.lt_of_lt_of_le hs4 hb5.size
            clear hb5 HT4 HB4
            go_wp2_with fail
            go_roundw
            case rel => exact ⟨j + 1, by omega, by go_num, HT5, HB5, hs5⟩
            case measure => simp [intOf]; omega
    · have hkN : (k : Int) = N + 1 := by omega
      obtain ⟨k', rfl⟩ : ∃ k', k = k' + 1 := ⟨k - 1, by omega⟩
      obtain ⟨hok, hlen⟩ := ord_ok (n := N + 1) (s := s) (by omega) (by omega) (k' + 1)
      have hne := ord_ne (n := N + 1) (s := s) k'
      obtain ⟨r, hc, hf, hm, hr⟩ := hT.out
      generalize ordM (N + 1) s (k' + 1) = M at hok hlen hne hm
      have HB := hB
      have hl : M.length ≤ 1000 := by omega
      have hwf : ∀ x ∈ M, (Lit.int .i64 x.1).wf = true := fun x hx => by have := hok.own x hx; exact i64wf (by omega) (by omega)
      have HM := Lib.hid hm
      have hpos : 0 < M.length := List.length_pos_iff.2 hne
      have HK := Lib.hid hok
      have hup := fun i x y => @all_up (N + 1) M hok i x y
      have HU := Lib.hid hup
      have HI := Lib.hid (three_parts _ (all_iss hok))
      have HL := Lib.hid hl
      have HW := Lib.hid hwf
      clear hT hB HT2 HB2 hm hok hr hne hup hwf hl
      go_wp2_with fail
      refine (all_calls hc HM.out HL.out HW.out).mono ?_
      rintro e w3 ⟨v, rfl, hO, hb3⟩
      obtain ⟨ad, cap, rfl⟩ := hO.len
      have hnl := allOf_len M
      have hc3 := (hb3.cell (World.block_lt_of_cell? wr _ hc)).trans hc
      have HM3 := Lib.hid (HM.out.below hb3)
      have hsr := HB.out.size
      have HB3 : Hid (Below w.heap.size w w3) := HB.out.trans (hb3.mono hsr)
      have hs3 := hb3.size
      have h0 : ofIss M 0 = ((allOf M).filter fun a => decide (a.2.1 = 0)).map (·.1) := rfl
      have h1 : ofIss M 1 = ((allOf M).filter fun a => decide (a.2.1 = 1)).map (·.1) := rfl
      have h2 : ofIss M 2 = ((allOf M).filter fun a => decide (a.2.1 = 2)).map (·.1) := rfl
      have hsum : (ofIss M 0).length + (ofIss M 1).length + (ofIss M 2).length = (allOf M).length := by
        rw [h0, h1, h2, List.length_map, List.length_map, List.length_map]; exact HI.out
      obtain ⟨g, cap', hv, hg1, hg2, hg3, hg4, hg5⟩ := hO.open (by intro e; rw [e] at hnl; simp at hnl; omega)
      simp only [Value.slice.injEq, true_and] at hv
      obtain ⟨rfl, rfl⟩ := hv
      unfold maxLen at hg4
      have HC : Hid (∀ i x, (allOf M)[i]? = some x → w3.cell? ⟨g, i * 5, none⟩ = some (.int .i64 x.1)) := fun i x hx => hg5 _ _ (asCells_get _ i x hx).1
      generalize allOf M = L at hO hnl HU hsum HC hg3 ⊢
      clear hO hb3 HM hc hf h0 h1 h2 hg5 HI HB
      go_wp2_with fail
      go_loopw [13] (fun i wq => ∃ q : Nat, 1 ≤ q ∧ q ≤ L.length ∧ i = .int .i64 q ∧ Hid (Below w3.heap.size w3 wq)) (fun i _ => L.length - (intOf i).toNat)
      case atStart => exact ⟨1, by omega, by omega, by go_num, Below.refl _ _⟩
      case round =>
        obtain ⟨q, hq1, hq2, rfl, hBq⟩ := hrel
        by_cases hql : q < L.length
        · obtain ⟨q', rfl⟩ : ∃ q', q = q' + 1 := ⟨q - 1, by omega⟩
          obtain ⟨x, hx⟩ : ∃ x, L[q']? = some x := ⟨_, List.getElem?_eq_getElem (by omega)⟩
          obtain ⟨y, hy⟩ : ∃ y, L[q' + 1]? = some y := ⟨_, List.getElem?_eq_getElem hql⟩
          have hxy := HU.out q' x y hx hy
          have d0 := (hBq.out.cell (p := ⟨g, q' * 5, none⟩) hg2).trans (HC.out q' x hx)
          have d1 := (hBq.out.cell (p := ⟨g, (q' + 1) * 5, none⟩) hg2).trans (HC.out (q' + 1) y hy)
          generalize x.1 = x1 at hxy d0
          generalize y.1 = y1 at hxy d1
          clear hx hy x y
          go_wp2_with fail
          go_quiet (fail)
          have hBq' : ∀ nq, Hid (Below w3.heap.size w3 (wr.drewN nq)) := fun nq => below_many hBq.out nq
          go_wp2_with fail
          go_roundw
          case rel => exact ⟨q' + 1 + 1, by omega, by omega, by go_num, hBq' _⟩
          case measure => simp [intOf]; omega
        · obtain rfl : q = L.length := by omega
          have HL3 := Lib.hid (HL.out)
          have hcr := (hBq.out.cell (World.block_lt_of_cell? w3 _ hc3)).trans hc3
          have HMr := Lib.hid (HM3.out.below hBq.out)
          have hBr : Below w.heap.size w wr := HB3.out.trans (hBq.out.mono HB3.out.size)
          have HBr := Lib.hid hBr
          clear hBq HM3 HB3 HC hBr hc3 HU
          go_wp2_with fail
          refine (of_calls hcr HMr.out HL.out HW.out 0).mono ?_
          rintro e w5 ⟨v5, rfl, hO5, hb5⟩
          obtain ⟨ad5, cap5, rfl⟩ := hO5.len
          have hc5 := (hb5.cell (World.block_lt_of_cell? wr _ hcr)).trans hcr
          have HM5 := Lib.hid (HMr.out.below hb5)
          have HB5 : Hid (Below w.heap.size w w5) := HBr.out.trans (hb5.mono HBr.out.size)
          clear hO5 hb5 HMr HBr hcr
          go_wp2_with fail
          refine (of_calls hc5 HM5.out HL.out HW.out 1).mono ?_
          rintro e w6 ⟨v6, rfl, hO6, hb6⟩
          obtain ⟨ad6, cap6, rfl⟩ := hO6.len
          have hc6 := (hb6.cell (World.block_lt_of_cell? w5 _ hc5)).trans hc5
          have HM6 := Lib.hid (HM5.out.below hb6)
          have HB6 : Hid (Below w.heap.size w w6) := HB5.out.trans (hb6.mono HB5.out.size)
          clear hO6 hb6 HM5 HB5 hc5
          go_wp2_with fail
          refine (of_calls hc6 HM6.out HL.out HW.out 2).mono ?_
          rintro e w7 ⟨v7, rfl, hO7, hb7⟩
          obtain ⟨ad7, cap7, rfl⟩ := hO7.len
          have HB7 : Hid (Below w.heap.size w w7) := HB6.out.trans (hb7.mono HB6.out.size)
          clear hO7 hb7 HM6 HB6 hc6
          generalize (ofIss M 0).length = l0 at hsum ⊢
          generalize (ofIss M 1).length = l1 at hsum ⊢
          generalize (ofIss M 2).length = l2 at hsum ⊢
          have hsumI : ((l0 : Int) + l1 + l2 == (M.length : Int)) = true := by simp; omega
          go_wp2_with fail
          go_ret
          exact ⟨rfl, HB7.out⟩
end Go.Proofs.YtfecgcdceegdlaaDoor
