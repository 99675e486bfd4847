/- The walk of pledgelaw14.HoldSums: it returns true, and writes nothing that was there. -/
import Derived.Test.YtfecgcdceegdlaaDoorHoldLaw
import Derived.Test.YtfecgcdceegdlaaDoorHoldSort
import Derived.Test.YtfecgcdceegdlaaDoorFlatB
import Derived.Test.YtfecgcdceegdlaaDoorNum
namespace Go.Proofs.YtfecgcdceegdlaaDoor
open Go.Maps
open Go Go.RowKit
set_option linter.unusedSimpArgs false
set_option linter.unusedVariables false

def doA (zs : List Int) (k : Nat) : DoH := (decide (zs.getD (k * 4) 0 = 1), zs.getD (k * 4 + 1) 0, zs.getD (k * 4 + 2) 0, zs.getD (k * 4 + 3) 0)
/-- What is held after k rounds. -/
def heldH (zs : List Int) : Nat → SpotM
  | 0 => []
  | k + 1 => doneH (heldH zs k) (doA zs k)
theorem heldH_ok (zs : List Int) : ∀ k, HOk (heldH zs k)
  | 0 => HOk.nil
  | k + 1 => doneH_ok (heldH_ok zs k) _
theorem heldH_len (zs : List Int) : ∀ k, (heldH zs k).length ≤ k
  | 0 => Nat.le_refl _
  | k + 1 => by
    have h1 := heldH_len zs k
    have h2 := doneH_len (heldH zs k) (doA zs k)
    simp only [heldH]
    omega
theorem doCell {w : World} {b off : Nat} {zs : List Int} (hc : ∀ j, j < zs.length → w.cell? ⟨b, off + j, none⟩ = some (cellK ([true, false, false, false].getD (j % 4) false) (zs.getD j 0))) {k : Nat} (hk : k * 4 + 3 < zs.length) :
    w.cell? ⟨b, off + k * 4, none⟩ = some (.bool (decide (zs.getD (k * 4) 0 = 1))) ∧ w.cell? ⟨b, off + k * 4 + 1, none⟩ = some (.int .i64 (zs.getD (k * 4 + 1) 0)) ∧ w.cell? ⟨b, off + k * 4 + 2, none⟩ = some (.int .i64 (zs.getD (k * 4 + 2) 0)) ∧ w.cell? ⟨b, off + k * 4 + 3, none⟩ = some (.int .i64 (zs.getD (k * 4 + 3) 0)) := by
  have h0 := hc (k * 4) (by omega)
  have h1 := hc (k * 4 + 1) (by omega)
  have h2 := hc (k * 4 + 2) (by omega)
  have h3 := hc (k * 4 + 3) (by omega)
  rw [show k * 4 % 4 = 0 by omega] at h0
  rw [show (k * 4 + 1) % 4 = 1 by omega, ← Nat.add_assoc] at h1
  rw [show (k * 4 + 2) % 4 = 2 by omega, ← Nat.add_assoc] at h2
  rw [show (k * 4 + 3) % 4 = 3 by omega, ← Nat.add_assoc] at h3
  exact ⟨h0, h1, h2, h3⟩
theorem getD_wf {zs : List Int} (h : ∀ z ∈ zs, (Lit.int .i64 z).wf = true) {j : Nat} (hj : j < zs.length) : (Lit.int .i64 (zs.getD j 0)).wf = true := h _ (by simp [List.getD, hj])

set_option maxHeartbeats 16000000 in
set_option maxRecDepth 100000 in
theorem sums_walk (hSort : SortsH) {p : Nat → Addr} {w : World} (hE : Errs (List.range 21) w.heap.size p w) (a : Option Addr) (len cap : Nat) (zs : List Int) (asset : Int) (hz : IsRowsK [true, false, false, false] w a len cap zs) (l0 : -9223372036854775808 ≤ asset) (u0 : asset ≤ 9223372036854775807) :
    Calls Tryd.prog 5 #[.slice a len cap, .int .i64 asset] w fun e w' => e = .returned (.bool true) ∧ Below w.heap.size w w' := by
  have HE := Lib.hid hE; clear hE
  have HSo := Lib.hid hSort; clear hSort
  by_cases hl : 60 < len
  · have hl1 : decide ((60 : Int) < len) = true := decide_eq_true (by omega)
    clear hz hl
    go_enter Tryd.func5, Tryd.ntmps5
    go_wp2_with fail
    refine (first14_calls HE.out).mono ?_
    rintro e w1 ⟨rfl, hb1⟩
    go_wp2_with fail
    go_ret
    exact ⟨rfl, hb1⟩
  have hl1 : decide ((60 : Int) < len) = false := decide_eq_false (by omega)
  have HZ := Lib.hid hz
  clear hz
  go_enter Tryd.func5, Tryd.ntmps5
  go_wp2_with fail
  refine (first14_calls HE.out).mono ?_
  rintro e w1 ⟨rfl, hb1⟩
  have hs1 := hb1.size
  go_wp2_with fail
  refine (number_calls asset 32 (by decide) (by decide) w1).mono ?_
  rintro e _ ⟨rfl, rfl⟩
  have hn1 := Int.emod_nonneg asset (show (32 : Int) ≠ 0 by decide)
  have hn2 := Int.emod_lt_of_pos asset (show (0 : Int) < 32 by decide)
  generalize asset % 32 = N at hn1 hn2 ⊢
  go_wp2_with fail
  obtain ⟨w2, hw2⟩ : ∃ w2, w2 = w1.alloc (Obj.cells #[.map none] 53) := ⟨_, rfl⟩
  have HH2 : Hid (HoldAt w.heap.size w2 w1.heap.size []) := by rw [hw2]; exact hold_new _ _
  have HB2 : Hid (Below w.heap.size w w2) := by rw [hw2]; unfold Hid; (repeat (first | exact Below.refl _ _ | assumption | refine Below.drew ?_ | refine below_many ?_ _ | refine Below.alloc ?_ (by first | (simp; done) | (simp; omega) | omega) _ | refine Below.setCell ?_ (by first | (simp; done) | (simp; omega) | omega) _))
  rw [← hw2]
  generalize w1.heap.size = tb at HH2 hs1 ⊢
  clear hw2 hb1
  obtain ⟨A, hA⟩ : ∃ A, A = N + 1 := ⟨_, rfl⟩
  rw [← hA]
  clear hA hn1 hn2
  go_loopw [8, 7] (fun i s wr => ∃ k : Nat, k ≤ len ∧ i = .int .i64 k ∧ s = .int .i64 (sumH (heldH zs k) A) ∧ Hid (HoldAt w.heap.size wr tb (heldH zs k)) ∧ Hid (Below w.heap.size w wr)) (fun i _ _ => len - (intOf i).toNat)
  case atStart => exact ⟨0, by omega, rfl, rfl, HH2, HB2⟩
  case round =>
    obtain ⟨k, hk, rfl, rfl, hH, hB⟩ := hrel
    have hLl := heldH_len zs k
    have hok := heldH_ok zs k
    have hsb := sumH_bd (fun x hx => by have := hok.bd x hx; omega) A
    by_cases hkl : k < len
    · obtain ⟨b, off, rfl, hbw, hzl, hlc, hcm, hcell, hwf⟩ := HZ.out.open (by decide) (by omega)
      simp only [List.length_cons, List.length_nil] at hzl hcell
      unfold maxLen at hcm
      obtain ⟨D0, D1, D2, D3⟩ := doCell (k := k) hcell (by omega)
      have hws := getD_wf hwf (j := k * 4 + 1) (by omega)
      have hwk := getD_wf hwf (j := k * 4 + 2) (by omega)
      have HN : Hid (heldH zs (k + 1) = doneH (heldH zs k) (doA zs k)) := rfl
      unfold doA at HN
      generalize decide (zs.getD (k * 4) 0 = 1) = t at D0 HN
      generalize zs.getD (k * 4 + 1) 0 = s at D1 HN hws
      generalize zs.getD (k * 4 + 2) 0 = r at D2 HN hwk
      generalize zs.getD (k * 4 + 3) 0 = q at D3 HN
      have hok1 := heldH_ok zs (k + 1)
      have hLl1 := heldH_len zs (k + 1)
      generalize hME : heldH zs (k + 1) = M1 at HN hok1 hLl1
      have HME := Lib.hid hME
      clear hME
      generalize heldH zs k = M at hH HN hLl hok hsb ⊢
      clear hcell hwf HH2 HB2
      have hsr := hB.out.size
      have d0 := (hB.out.cell (p := ⟨b, off + k * 4, none⟩) hbw).trans D0
      have d1 := (hB.out.cell (p := ⟨b, off + k * 4 + 1, none⟩) hbw).trans D1
      have d2 := (hB.out.cell (p := ⟨b, off + k * 4 + 2, none⟩) hbw).trans D2
      have d3 := (hB.out.cell (p := ⟨b, off + k * 4 + 3, none⟩) hbw).trans D3
      have HG := hok.get (s, r)
      obtain ⟨g, hg⟩ : ∃ g, g = (mget M (s, r)).getD 0 := ⟨_, rfl⟩
      rw [← hg] at HG
      have HGe : Hid ((mget M (s, r)).getD 0 = g) := hg.symm
      have hsp := sumH_mput hok (s, r)
      have hsd := sumH_mdel hok (s, r) A
      simp only [← hg] at hsp hsd
      have HSP := Lib.hid hsp
      have HSD := Lib.hid hsd
      have HBd1 : Hid (∀ x ∈ M1, 0 ≤ x.2 ∧ x.2 ≤ 1000000000000) := fun x hx => by have := hok1.bd x hx; omega
      have HG1 : Hid (∀ y, 0 ≤ (mget M1 y).getD 0 ∧ (mget M1 y).getD 0 ≤ 1000000000000) := hok1.get
      have hsb2 : sumH M A ≤ 1000000000000 * 60 := by omega
      have hsb1 := hsb.1
      have HSe : Hid (sumH M A = sumH M A) := rfl
      obtain ⟨S, hS⟩ : ∃ S, S = sumH M A := ⟨_, rfl⟩
      rw [← hS] at hsb1 hsb2 ⊢
      have HSM : Hid (sumH M A = S) := hS.symm
      clear hg hsp hsd hok hok1 hsb hS HSe
      cases t with
      | true =>
        cases hv : spotOK s r q with
        | false =>
          have hM1 : M1 = M := by rw [HN.out]; unfold doneH; dsimp only; rw [HGe.out]; rw [if_pos hv]
          go_wp2_with fail
          refine (hold_take_bad (HE.out.below hB.out) (by decide) hH.out hsr s r q hv).mono ?_
          rintro e w4 ⟨rfl, hH4, hb4⟩
          rw [show ev p 2 = Value.iface 230 (.pointer (some (p 2))) from rfl]
          rw [← hM1] at hH4
          have hB4 := hB.out.trans hb4
          have HSn : Hid (sumH M1 A = S) := by unfold Hid; rw [hM1]; exact HSM.out
          clear hM1
          have hs4 := hB4.size
          have e0 := (hB4.cell (p := ⟨b, off + k * 4, none⟩) hbw).trans D0
          have e1 := (hB4.cell (p := ⟨b, off + k * 4 + 1, none⟩) hbw).trans D1
          have e2 := (hB4.cell (p := ⟨b, off + k * 4 + 2, none⟩) hbw).trans D2
          have e3 := (hB4.cell (p := ⟨b, off + k * 4 + 3, none⟩) hbw).trans D3
          have HH4 := Lib.hid hH4
          clear hH4 hb4 d0 d1 d2 d3 hH hB hsr
          go_wp2_with fail
          refine (hold_sum HH4.out (by omega) HBd1.out A).mono ?_
          rintro e w5 ⟨rfl, hb5⟩
          rw [HSn.out]
          have HH5 := Lib.hid (HH4.out.below hb5)
          have hB5 := hB4.trans (hb5.mono hs4)
          have hs5 := hB5.size
          clear e0 e1 e2 e3 hb5 HH4 hB4 hs4
          have e1 := (hB5.cell (p := ⟨b, off + k * 4 + 1, none⟩) hbw).trans D1
          have e2 := (hB5.cell (p := ⟨b, off + k * 4 + 2, none⟩) hbw).trans D2
          go_wp2_with fail
          refine (hold_get HH5.out s r hws hwk).mono ?_
          rintro e w6 ⟨rfl, hb6⟩
          have hg6 := HG1.out (s, r)
          generalize (mget M1 (s, r)).getD 0 = g6 at hg6 ⊢
          have HH6 := Lib.hid (HH5.out.below hb6)
          have hB6 := hB5.trans (hb6.mono hs5)
          have hs6 := hB6.size
          clear e1 e2 hb6 HH5 hB5 hs5
          have e1 := (hB6.cell (p := ⟨b, off + k * 4 + 1, none⟩) hbw).trans D1
          have e2 := (hB6.cell (p := ⟨b, off + k * 4 + 2, none⟩) hbw).trans D2
          go_wp2_with fail
          refine (hold_get HH6.out s r hws hwk).mono ?_
          rintro e w7 ⟨rfl, hb7⟩
          have hg7 := HG1.out (s, r)
          generalize (mget M1 (s, r)).getD 0 = g7 at hg7 ⊢
          have HH7 := Lib.hid (HH6.out.below hb7)
          have hB7 : Hid (Below w.heap.size w w7) := hB6.trans (hb7.mono hs6)
          clear e1 e2 hb7 HH6 hB6 hs6
          go_wp2_with fail
          go_roundw
          case rel => exact ⟨k + 1, by omega, by go_num, by rw [HME.out, HSn.out], by rw [HME.out]; exact HH7, hB7⟩
          case measure => simp [intOf]; omega
        | true =>
          have hvn : ¬ spotOK s r q = false := by rw [hv]; simp
          have hqb : 1 ≤ q ∧ q ≤ 1000000000000 := by simp only [spotOK, decide_eq_true_eq] at hv; omega
          have HV := Lib.hid hv
          clear hv
          by_cases h1 : g < q
          · have hM1 : M1 = M := by rw [HN.out]; unfold doneH; dsimp only; rw [HGe.out]; rw [if_neg hvn, if_pos rfl, if_pos h1]
            go_wp2_with fail
            refine (hold_take_short (HE.out.below hB.out) (by decide) (by decide) hH.out hsr s r q g HV.out HGe.out h1).mono ?_
            rintro e w4 ⟨rfl, hH4, hb4⟩
            rw [show ev p 12 = Value.iface 230 (.pointer (some (p 12))) from rfl]
            rw [← hM1] at hH4
            have hB4 := hB.out.trans hb4
            have HSn : Hid (sumH M1 A = S) := by unfold Hid; rw [hM1]; exact HSM.out
            clear hM1
            have hs4 := hB4.size
            have e0 := (hB4.cell (p := ⟨b, off + k * 4, none⟩) hbw).trans D0
            have e1 := (hB4.cell (p := ⟨b, off + k * 4 + 1, none⟩) hbw).trans D1
            have e2 := (hB4.cell (p := ⟨b, off + k * 4 + 2, none⟩) hbw).trans D2
            have e3 := (hB4.cell (p := ⟨b, off + k * 4 + 3, none⟩) hbw).trans D3
            have HH4 := Lib.hid hH4
            clear hH4 hb4 d0 d1 d2 d3 hH hB hsr
            go_wp2_with fail
            refine (hold_sum HH4.out (by omega) HBd1.out A).mono ?_
            rintro e w5 ⟨rfl, hb5⟩
            rw [HSn.out]
            have HH5 := Lib.hid (HH4.out.below hb5)
            have hB5 := hB4.trans (hb5.mono hs4)
            have hs5 := hB5.size
            clear e0 e1 e2 e3 hb5 HH4 hB4 hs4
            have e1 := (hB5.cell (p := ⟨b, off + k * 4 + 1, none⟩) hbw).trans D1
            have e2 := (hB5.cell (p := ⟨b, off + k * 4 + 2, none⟩) hbw).trans D2
            go_wp2_with fail
            refine (hold_get HH5.out s r hws hwk).mono ?_
            rintro e w6 ⟨rfl, hb6⟩
            have hg6 := HG1.out (s, r)
            generalize (mget M1 (s, r)).getD 0 = g6 at hg6 ⊢
            have HH6 := Lib.hid (HH5.out.below hb6)
            have hB6 := hB5.trans (hb6.mono hs5)
            have hs6 := hB6.size
            clear e1 e2 hb6 HH5 hB5 hs5
            have e1 := (hB6.cell (p := ⟨b, off + k * 4 + 1, none⟩) hbw).trans D1
            have e2 := (hB6.cell (p := ⟨b, off + k * 4 + 2, none⟩) hbw).trans D2
            go_wp2_with fail
            refine (hold_get HH6.out s r hws hwk).mono ?_
            rintro e w7 ⟨rfl, hb7⟩
            have hg7 := HG1.out (s, r)
            generalize (mget M1 (s, r)).getD 0 = g7 at hg7 ⊢
            have HH7 := Lib.hid (HH6.out.below hb7)
            have hB7 : Hid (Below w.heap.size w w7) := hB6.trans (hb7.mono hs6)
            clear e1 e2 hb7 HH6 hB6 hs6
            go_wp2_with fail
            go_roundw
            case rel => exact ⟨k + 1, by omega, by go_num, by rw [HME.out, HSn.out], by rw [HME.out]; exact HH7, hB7⟩
            case measure => simp [intOf]; omega
          by_cases h2 : g = q
          · have hM1 : M1 = mdel M (s, r) := by rw [HN.out]; unfold doneH; dsimp only; rw [HGe.out]; rw [if_neg hvn, if_pos rfl, if_neg h1, if_pos h2]
            go_wp2_with fail
            refine (hold_take_all (HE.out.below hB.out) (by decide) hH.out hsr hs1 s r q HV.out (by rw [HGe.out, h2])).mono ?_
            rintro e w4 ⟨rfl, hH4, hb4⟩
            rw [← hM1] at hH4
            have hB4 := hB.out.trans hb4
            by_cases hrA : r = A
            · have HSn : Hid (sumH M1 A = S + -q) := by unfold Hid; rw [hM1, HSD.out, HSM.out, if_pos hrA]; omega
              clear hM1
              try clear h2
              subst hrA
              have hs4 := hB4.size
              have e0 := (hB4.cell (p := ⟨b, off + k * 4, none⟩) hbw).trans D0
              have e1 := (hB4.cell (p := ⟨b, off + k * 4 + 1, none⟩) hbw).trans D1
              have e2 := (hB4.cell (p := ⟨b, off + k * 4 + 2, none⟩) hbw).trans D2
              have e3 := (hB4.cell (p := ⟨b, off + k * 4 + 3, none⟩) hbw).trans D3
              have HH4 := Lib.hid hH4
              clear hH4 hb4 d0 d1 d2 d3 hH hB hsr
              go_wp2_with fail
              obtain ⟨S2, hS2⟩ : ∃ S2, S2 = S + -q := ⟨_, rfl⟩
              rw [← hS2] at HSn ⊢
              clear hS2
              refine (hold_sum HH4.out (by omega) HBd1.out r).mono ?_
              rintro e w5 ⟨rfl, hb5⟩
              rw [HSn.out]
              have HH5 := Lib.hid (HH4.out.below hb5)
              have hB5 := hB4.trans (hb5.mono hs4)
              have hs5 := hB5.size
              clear e0 e1 e2 e3 hb5 HH4 hB4 hs4
              have e1 := (hB5.cell (p := ⟨b, off + k * 4 + 1, none⟩) hbw).trans D1
              have e2 := (hB5.cell (p := ⟨b, off + k * 4 + 2, none⟩) hbw).trans D2
              go_wp2_with fail
              refine (hold_get HH5.out s r hws hwk).mono ?_
              rintro e w6 ⟨rfl, hb6⟩
              have hg6 := HG1.out (s, r)
              generalize (mget M1 (s, r)).getD 0 = g6 at hg6 ⊢
              have HH6 := Lib.hid (HH5.out.below hb6)
              have hB6 := hB5.trans (hb6.mono hs5)
              have hs6 := hB6.size
              clear e1 e2 hb6 HH5 hB5 hs5
              have e1 := (hB6.cell (p := ⟨b, off + k * 4 + 1, none⟩) hbw).trans D1
              have e2 := (hB6.cell (p := ⟨b, off + k * 4 + 2, none⟩) hbw).trans D2
              go_wp2_with fail
              refine (hold_get HH6.out s r hws hwk).mono ?_
              rintro e w7 ⟨rfl, hb7⟩
              have hg7 := HG1.out (s, r)
              generalize (mget M1 (s, r)).getD 0 = g7 at hg7 ⊢
              have HH7 := Lib.hid (HH6.out.below hb7)
              have hB7 : Hid (Below w.heap.size w w7) := hB6.trans (hb7.mono hs6)
              clear e1 e2 hb7 HH6 hB6 hs6
              go_wp2_with fail
              go_roundw
              case rel => exact ⟨k + 1, by omega, by go_num, by rw [HME.out, HSn.out], by rw [HME.out]; exact HH7, hB7⟩
              case measure => simp [intOf]; omega
            · have HSn : Hid (sumH M1 A = S) := by unfold Hid; rw [hM1, HSD.out, HSM.out, if_neg hrA]; omega
              clear hM1
              try clear h2
              have hs4 := hB4.size
              have e0 := (hB4.cell (p := ⟨b, off + k * 4, none⟩) hbw).trans D0
              have e1 := (hB4.cell (p := ⟨b, off + k * 4 + 1, none⟩) hbw).trans D1
              have e2 := (hB4.cell (p := ⟨b, off + k * 4 + 2, none⟩) hbw).trans D2
              have e3 := (hB4.cell (p := ⟨b, off + k * 4 + 3, none⟩) hbw).trans D3
              have HH4 := Lib.hid hH4
              clear hH4 hb4 d0 d1 d2 d3 hH hB hsr
              go_wp2_with fail
              refine (hold_sum HH4.out (by omega) HBd1.out A).mono ?_
              rintro e w5 ⟨rfl, hb5⟩
              rw [HSn.out]
              have HH5 := Lib.hid (HH4.out.below hb5)
              have hB5 := hB4.trans (hb5.mono hs4)
              have hs5 := hB5.size
              clear e0 e1 e2 e3 hb5 HH4 hB4 hs4
              have e1 := (hB5.cell (p := ⟨b, off + k * 4 + 1, none⟩) hbw).trans D1
              have e2 := (hB5.cell (p := ⟨b, off + k * 4 + 2, none⟩) hbw).trans D2
              go_wp2_with fail
              refine (hold_get HH5.out s r hws hwk).mono ?_
              rintro e w6 ⟨rfl, hb6⟩
              have hg6 := HG1.out (s, r)
              generalize (mget M1 (s, r)).getD 0 = g6 at hg6 ⊢
              have HH6 := Lib.hid (HH5.out.below hb6)
              have hB6 := hB5.trans (hb6.mono hs5)
              have hs6 := hB6.size
              clear e1 e2 hb6 HH5 hB5 hs5
              have e1 := (hB6.cell (p := ⟨b, off + k * 4 + 1, none⟩) hbw).trans D1
              have e2 := (hB6.cell (p := ⟨b, off + k * 4 + 2, none⟩) hbw).trans D2
              go_wp2_with fail
              refine (hold_get HH6.out s r hws hwk).mono ?_
              rintro e w7 ⟨rfl, hb7⟩
              have hg7 := HG1.out (s, r)
              generalize (mget M1 (s, r)).getD 0 = g7 at hg7 ⊢
              have HH7 := Lib.hid (HH6.out.below hb7)
              have hB7 : Hid (Below w.heap.size w w7) := hB6.trans (hb7.mono hs6)
              clear e1 e2 hb7 HH6 hB6 hs6
              go_wp2_with fail
              go_roundw
              case rel => exact ⟨k + 1, by omega, by go_num, by rw [HME.out, HSn.out], by rw [HME.out]; exact HH7, hB7⟩
              case measure => simp [intOf]; omega
          have hM1 : M1 = mput M (s, r) (g - q) := by rw [HN.out]; unfold doneH; dsimp only; rw [HGe.out]; rw [if_neg hvn, if_pos rfl, if_neg h1, if_neg h2]
          go_wp2_with fail
          refine (hold_take_part (HE.out.below hB.out) (by decide) hH.out hsr hs1 s r q g HV.out HGe.out (by omega) (by omega)).mono ?_
          rintro e w4 ⟨rfl, hH4, hb4⟩
          rw [← hM1] at hH4
          have hB4 := hB.out.trans hb4
          by_cases hrA : r = A
          · have HSn : Hid (sumH M1 A = S + -q) := by unfold Hid; rw [hM1, HSP.out (g - q) A, HSM.out, if_pos hrA]; omega
            clear hM1
            try clear h2
            subst hrA
            have hs4 := hB4.size
            have e0 := (hB4.cell (p := ⟨b, off + k * 4, none⟩) hbw).trans D0
            have e1 := (hB4.cell (p := ⟨b, off + k * 4 + 1, none⟩) hbw).trans D1
            have e2 := (hB4.cell (p := ⟨b, off + k * 4 + 2, none⟩) hbw).trans D2
            have e3 := (hB4.cell (p := ⟨b, off + k * 4 + 3, none⟩) hbw).trans D3
            have HH4 := Lib.hid hH4
            clear hH4 hb4 d0 d1 d2 d3 hH hB hsr
            go_wp2_with fail
            obtain ⟨S2, hS2⟩ : ∃ S2, S2 = S + -q := ⟨_, rfl⟩
            rw [← hS2] at HSn ⊢
            clear hS2
            refine (hold_sum HH4.out (by omega) HBd1.out r).mono ?_
            rintro e w5 ⟨rfl, hb5⟩
            rw [HSn.out]
            have HH5 := Lib.hid (HH4.out.below hb5)
            have hB5 := hB4.trans (hb5.mono hs4)
            have hs5 := hB5.size
            clear e0 e1 e2 e3 hb5 HH4 hB4 hs4
            have e1 := (hB5.cell (p := ⟨b, off + k * 4 + 1, none⟩) hbw).trans D1
            have e2 := (hB5.cell (p := ⟨b, off + k * 4 + 2, none⟩) hbw).trans D2
            go_wp2_with fail
            refine (hold_get HH5.out s r hws hwk).mono ?_
            rintro e w6 ⟨rfl, hb6⟩
            have hg6 := HG1.out (s, r)
            generalize (mget M1 (s, r)).getD 0 = g6 at hg6 ⊢
            have HH6 := Lib.hid (HH5.out.below hb6)
            have hB6 := hB5.trans (hb6.mono hs5)
            have hs6 := hB6.size
            clear e1 e2 hb6 HH5 hB5 hs5
            have e1 := (hB6.cell (p := ⟨b, off + k * 4 + 1, none⟩) hbw).trans D1
            have e2 := (hB6.cell (p := ⟨b, off + k * 4 + 2, none⟩) hbw).trans D2
            go_wp2_with fail
            refine (hold_get HH6.out s r hws hwk).mono ?_
            rintro e w7 ⟨rfl, hb7⟩
            have hg7 := HG1.out (s, r)
            generalize (mget M1 (s, r)).getD 0 = g7 at hg7 ⊢
            have HH7 := Lib.hid (HH6.out.below hb7)
            have hB7 : Hid (Below w.heap.size w w7) := hB6.trans (hb7.mono hs6)
            clear e1 e2 hb7 HH6 hB6 hs6
            go_wp2_with fail
            go_roundw
            case rel => exact ⟨k + 1, by omega, by go_num, by rw [HME.out, HSn.out], by rw [HME.out]; exact HH7, hB7⟩
            case measure => simp [intOf]; omega
          · have HSn : Hid (sumH M1 A = S) := by unfold Hid; rw [hM1, HSP.out (g - q) A, HSM.out, if_neg hrA]; omega
            clear hM1
            try clear h2
            have hs4 := hB4.size
            have e0 := (hB4.cell (p := ⟨b, off + k * 4, none⟩) hbw).trans D0
            have e1 := (hB4.cell (p := ⟨b, off + k * 4 + 1, none⟩) hbw).trans D1
            have e2 := (hB4.cell (p := ⟨b, off + k * 4 + 2, none⟩) hbw).trans D2
            have e3 := (hB4.cell (p := ⟨b, off + k * 4 + 3, none⟩) hbw).trans D3
            have HH4 := Lib.hid hH4
            clear hH4 hb4 d0 d1 d2 d3 hH hB hsr
            go_wp2_with fail
            refine (hold_sum HH4.out (by omega) HBd1.out A).mono ?_
            rintro e w5 ⟨rfl, hb5⟩
            rw [HSn.out]
            have HH5 := Lib.hid (HH4.out.below hb5)
            have hB5 := hB4.trans (hb5.mono hs4)
            have hs5 := hB5.size
            clear e0 e1 e2 e3 hb5 HH4 hB4 hs4
            have e1 := (hB5.cell (p := ⟨b, off + k * 4 + 1, none⟩) hbw).trans D1
            have e2 := (hB5.cell (p := ⟨b, off + k * 4 + 2, none⟩) hbw).trans D2
            go_wp2_with fail
            refine (hold_get HH5.out s r hws hwk).mono ?_
            rintro e w6 ⟨rfl, hb6⟩
            have hg6 := HG1.out (s, r)
            generalize (mget M1 (s, r)).getD 0 = g6 at hg6 ⊢
            have HH6 := Lib.hid (HH5.out.below hb6)
            have hB6 := hB5.trans (hb6.mono hs5)
            have hs6 := hB6.size
            clear e1 e2 hb6 HH5 hB5 hs5
            have e1 := (hB6.cell (p := ⟨b, off + k * 4 + 1, none⟩) hbw).trans D1
            have e2 := (hB6.cell (p := ⟨b, off + k * 4 + 2, none⟩) hbw).trans D2
            go_wp2_with fail
            refine (hold_get HH6.out s r hws hwk).mono ?_
            rintro e w7 ⟨rfl, hb7⟩
            have hg7 := HG1.out (s, r)
            generalize (mget M1 (s, r)).getD 0 = g7 at hg7 ⊢
            have HH7 := Lib.hid (HH6.out.below hb7)
            have hB7 : Hid (Below w.heap.size w w7) := hB6.trans (hb7.mono hs6)
            clear e1 e2 hb7 HH6 hB6 hs6
            go_wp2_with fail
            go_roundw
            case rel => exact ⟨k + 1, by omega, by go_num, by rw [HME.out, HSn.out], by rw [HME.out]; exact HH7, hB7⟩
            case measure => simp [intOf]; omega
      | false =>
        cases hv : spotOK s r q with
        | false =>
          have hM1 : M1 = M := by rw [HN.out]; unfold doneH; dsimp only; rw [HGe.out]; rw [if_pos hv]
          go_wp2_with fail
          refine (hold_put_bad (HE.out.below hB.out) (by decide) hH.out hsr s r q hv).mono ?_
          rintro e w4 ⟨rfl, hH4, hb4⟩
          rw [show ev p 2 = Value.iface 230 (.pointer (some (p 2))) from rfl]
          rw [← hM1] at hH4
          have hB4 := hB.out.trans hb4
          have HSn : Hid (sumH M1 A = S) := by unfold Hid; rw [hM1]; exact HSM.out
          clear hM1
          have hs4 := hB4.size
          have e0 := (hB4.cell (p := ⟨b, off + k * 4, none⟩) hbw).trans D0
          have e1 := (hB4.cell (p := ⟨b, off + k * 4 + 1, none⟩) hbw).trans D1
          have e2 := (hB4.cell (p := ⟨b, off + k * 4 + 2, none⟩) hbw).trans D2
          have e3 := (hB4.cell (p := ⟨b, off + k * 4 + 3, none⟩) hbw).trans D3
          have HH4 := Lib.hid hH4
          clear hH4 hb4 d0 d1 d2 d3 hH hB hsr
          go_wp2_with fail
          refine (hold_sum HH4.out (by omega) HBd1.out A).mono ?_
          rintro e w5 ⟨rfl, hb5⟩
          rw [HSn.out]
          have HH5 := Lib.hid (HH4.out.below hb5)
          have hB5 := hB4.trans (hb5.mono hs4)
          have hs5 := hB5.size
          clear e0 e1 e2 e3 hb5 HH4 hB4 hs4
          have e1 := (hB5.cell (p := ⟨b, off + k * 4 + 1, none⟩) hbw).trans D1
          have e2 := (hB5.cell (p := ⟨b, off + k * 4 + 2, none⟩) hbw).trans D2
          go_wp2_with fail
          refine (hold_get HH5.out s r hws hwk).mono ?_
          rintro e w6 ⟨rfl, hb6⟩
          have hg6 := HG1.out (s, r)
          generalize (mget M1 (s, r)).getD 0 = g6 at hg6 ⊢
          have HH6 := Lib.hid (HH5.out.below hb6)
          have hB6 := hB5.trans (hb6.mono hs5)
          have hs6 := hB6.size
          clear e1 e2 hb6 HH5 hB5 hs5
          have e1 := (hB6.cell (p := ⟨b, off + k * 4 + 1, none⟩) hbw).trans D1
          have e2 := (hB6.cell (p := ⟨b, off + k * 4 + 2, none⟩) hbw).trans D2
          go_wp2_with fail
          refine (hold_get HH6.out s r hws hwk).mono ?_
          rintro e w7 ⟨rfl, hb7⟩
          have hg7 := HG1.out (s, r)
          generalize (mget M1 (s, r)).getD 0 = g7 at hg7 ⊢
          have HH7 := Lib.hid (HH6.out.below hb7)
          have hB7 : Hid (Below w.heap.size w w7) := hB6.trans (hb7.mono hs6)
          clear e1 e2 hb7 HH6 hB6 hs6
          go_wp2_with fail
          go_roundw
          case rel => exact ⟨k + 1, by omega, by go_num, by rw [HME.out, HSn.out], by rw [HME.out]; exact HH7, hB7⟩
          case measure => simp [intOf]; omega
        | true =>
          have hvn : ¬ spotOK s r q = false := by rw [hv]; simp
          have hqb : 1 ≤ q ∧ q ≤ 1000000000000 := by simp only [spotOK, decide_eq_true_eq] at hv; omega
          have HV := Lib.hid hv
          clear hv
          by_cases h1 : 1000000000000 < g + q
          · have hM1 : M1 = M := by rw [HN.out]; unfold doneH; dsimp only; rw [HGe.out]; rw [if_neg hvn, if_neg (by simp), if_pos h1]
            go_wp2_with fail
            refine (hold_put_over (HE.out.below hB.out) (by decide) (by decide) hH.out hsr s r q g HV.out HGe.out (by omega) (by omega) h1).mono ?_
            rintro e w4 ⟨rfl, hH4, hb4⟩
            rw [show ev p 3 = Value.iface 230 (.pointer (some (p 3))) from rfl]
            rw [← hM1] at hH4
            have hB4 := hB.out.trans hb4
            have HSn : Hid (sumH M1 A = S) := by unfold Hid; rw [hM1]; exact HSM.out
            clear hM1
            have hs4 := hB4.size
            have e0 := (hB4.cell (p := ⟨b, off + k * 4, none⟩) hbw).trans D0
            have e1 := (hB4.cell (p := ⟨b, off + k * 4 + 1, none⟩) hbw).trans D1
            have e2 := (hB4.cell (p := ⟨b, off + k * 4 + 2, none⟩) hbw).trans D2
            have e3 := (hB4.cell (p := ⟨b, off + k * 4 + 3, none⟩) hbw).trans D3
            have HH4 := Lib.hid hH4
            clear hH4 hb4 d0 d1 d2 d3 hH hB hsr
            go_wp2_with fail
            refine (hold_sum HH4.out (by omega) HBd1.out A).mono ?_
            rintro e w5 ⟨rfl, hb5⟩
            rw [HSn.out]
            have HH5 := Lib.hid (HH4.out.below hb5)
            have hB5 := hB4.trans (hb5.mono hs4)
            have hs5 := hB5.size
            clear e0 e1 e2 e3 hb5 HH4 hB4 hs4
            have e1 := (hB5.cell (p := ⟨b, off + k * 4 + 1, none⟩) hbw).trans D1
            have e2 := (hB5.cell (p := ⟨b, off + k * 4 + 2, none⟩) hbw).trans D2
            go_wp2_with fail
            refine (hold_get HH5.out s r hws hwk).mono ?_
            rintro e w6 ⟨rfl, hb6⟩
            have hg6 := HG1.out (s, r)
            generalize (mget M1 (s, r)).getD 0 = g6 at hg6 ⊢
            have HH6 := Lib.hid (HH5.out.below hb6)
            have hB6 := hB5.trans (hb6.mono hs5)
            have hs6 := hB6.size
            clear e1 e2 hb6 HH5 hB5 hs5
            have e1 := (hB6.cell (p := ⟨b, off + k * 4 + 1, none⟩) hbw).trans D1
            have e2 := (hB6.cell (p := ⟨b, off + k * 4 + 2, none⟩) hbw).trans D2
            go_wp2_with fail
            refine (hold_get HH6.out s r hws hwk).mono ?_
            rintro e w7 ⟨rfl, hb7⟩
            have hg7 := HG1.out (s, r)
            generalize (mget M1 (s, r)).getD 0 = g7 at hg7 ⊢
            have HH7 := Lib.hid (HH6.out.below hb7)
            have hB7 : Hid (Below w.heap.size w w7) := hB6.trans (hb7.mono hs6)
            clear e1 e2 hb7 HH6 hB6 hs6
            go_wp2_with fail
            go_roundw
            case rel => exact ⟨k + 1, by omega, by go_num, by rw [HME.out, HSn.out], by rw [HME.out]; exact HH7, hB7⟩
            case measure => simp [intOf]; omega
          have hM1 : M1 = mput M (s, r) (g + q) := by rw [HN.out]; unfold doneH; dsimp only; rw [HGe.out]; rw [if_neg hvn, if_neg (by simp), if_neg h1]
          go_wp2_with fail
          refine (hold_put (HE.out.below hB.out) (by decide) hH.out hsr hs1 s r q g HV.out HGe.out (by omega) (by omega) (by omega)).mono ?_
          rintro e w4 ⟨rfl, hH4, hb4⟩
          rw [← hM1] at hH4
          have hB4 := hB.out.trans hb4
          by_cases hrA : r = A
          · have HSn : Hid (sumH M1 A = S + q) := by unfold Hid; rw [hM1, HSP.out (g + q) A, HSM.out, if_pos hrA]; omega
            clear hM1
            try clear h2
            subst hrA
            have hs4 := hB4.size
            have e0 := (hB4.cell (p := ⟨b, off + k * 4, none⟩) hbw).trans D0
            have e1 := (hB4.cell (p := ⟨b, off + k * 4 + 1, none⟩) hbw).trans D1
            have e2 := (hB4.cell (p := ⟨b, off + k * 4 + 2, none⟩) hbw).trans D2
            have e3 := (hB4.cell (p := ⟨b, off + k * 4 + 3, none⟩) hbw).trans D3
            have HH4 := Lib.hid hH4
            clear hH4 hb4 d0 d1 d2 d3 hH hB hsr
            go_wp2_with fail
            obtain ⟨S2, hS2⟩ : ∃ S2, S2 = S + q := ⟨_, rfl⟩
            rw [← hS2] at HSn ⊢
            clear hS2
            refine (hold_sum HH4.out (by omega) HBd1.out r).mono ?_
            rintro e w5 ⟨rfl, hb5⟩
            rw [HSn.out]
            have HH5 := Lib.hid (HH4.out.below hb5)
            have hB5 := hB4.trans (hb5.mono hs4)
            have hs5 := hB5.size
            clear e0 e1 e2 e3 hb5 HH4 hB4 hs4
            have e1 := (hB5.cell (p := ⟨b, off + k * 4 + 1, none⟩) hbw).trans D1
            have e2 := (hB5.cell (p := ⟨b, off + k * 4 + 2, none⟩) hbw).trans D2
            go_wp2_with fail
            refine (hold_get HH5.out s r hws hwk).mono ?_
            rintro e w6 ⟨rfl, hb6⟩
            have hg6 := HG1.out (s, r)
            generalize (mget M1 (s, r)).getD 0 = g6 at hg6 ⊢
            have HH6 := Lib.hid (HH5.out.below hb6)
            have hB6 := hB5.trans (hb6.mono hs5)
            have hs6 := hB6.size
            clear e1 e2 hb6 HH5 hB5 hs5
            have e1 := (hB6.cell (p := ⟨b, off + k * 4 + 1, none⟩) hbw).trans D1
            have e2 := (hB6.cell (p := ⟨b, off + k * 4 + 2, none⟩) hbw).trans D2
            go_wp2_with fail
            refine (hold_get HH6.out s r hws hwk).mono ?_
            rintro e w7 ⟨rfl, hb7⟩
            have hg7 := HG1.out (s, r)
            generalize (mget M1 (s, r)).getD 0 = g7 at hg7 ⊢
            have HH7 := Lib.hid (HH6.out.below hb7)
            have hB7 : Hid (Below w.heap.size w w7) := hB6.trans (hb7.mono hs6)
            clear e1 e2 hb7 HH6 hB6 hs6
            go_wp2_with fail
            go_roundw
            case rel => exact ⟨k + 1, by omega, by go_num, by rw [HME.out, HSn.out], by rw [HME.out]; exact HH7, hB7⟩
            case measure => simp [intOf]; omega
          · have HSn : Hid (sumH M1 A = S) := by unfold Hid; rw [hM1, HSP.out (g + q) A, HSM.out, if_neg hrA]; omega
            clear hM1
            try clear h2
            have hs4 := hB4.size
            have e0 := (hB4.cell (p := ⟨b, off + k * 4, none⟩) hbw).trans D0
            have e1 := (hB4.cell (p := ⟨b, off + k * 4 + 1, none⟩) hbw).trans D1
            have e2 := (hB4.cell (p := ⟨b, off + k * 4 + 2, none⟩) hbw).trans D2
            have e3 := (hB4.cell (p := ⟨b, off + k * 4 + 3, none⟩) hbw).trans D3
            have HH4 := Lib.hid hH4
            clear hH4 hb4 d0 d1 d2 d3 hH hB hsr
            go_wp2_with fail
            refine (hold_sum HH4.out (by omega) HBd1.out A).mono ?_
            rintro e w5 ⟨rfl, hb5⟩
            rw [HSn.out]
            have HH5 := Lib.hid (HH4.out.below hb5)
            have hB5 := hB4.trans (hb5.mono hs4)
            have hs5 := hB5.size
            clear e0 e1 e2 e3 hb5 HH4 hB4 hs4
            have e1 := (hB5.cell (p := ⟨b, off + k * 4 + 1, none⟩) hbw).trans D1
            have e2 := (hB5.cell (p := ⟨b, off + k * 4 + 2, none⟩) hbw).trans D2
            go_wp2_with fail
            refine (hold_get HH5.out s r hws hwk).mono ?_
            rintro e w6 ⟨rfl, hb6⟩
            have hg6 := HG1.out (s, r)
            generalize (mget M1 (s, r)).getD 0 = g6 at hg6 ⊢
            have HH6 := Lib.hid (HH5.out.below hb6)
            have hB6 := hB5.trans (hb6.mono hs5)
            have hs6 := hB6.size
            clear e1 e2 hb6 HH5 hB5 hs5
            have e1 := (hB6.cell (p := ⟨b, off + k * 4 + 1, none⟩) hbw).trans D1
            have e2 := (hB6.cell (p := ⟨b, off + k * 4 + 2, none⟩) hbw).trans D2
            go_wp2_with fail
            refine (hold_get HH6.out s r hws hwk).mono ?_
            rintro e w7 ⟨rfl, hb7⟩
            have hg7 := HG1.out (s, r)
            generalize (mget M1 (s, r)).getD 0 = g7 at hg7 ⊢
            have HH7 := Lib.hid (HH6.out.below hb7)
            have hB7 : Hid (Below w.heap.size w w7) := hB6.trans (hb7.mono hs6)
            clear e1 e2 hb7 HH6 hB6 hs6
            go_wp2_with fail
            go_roundw
            case rel => exact ⟨k + 1, by omega, by go_num, by rw [HME.out, HSn.out], by rw [HME.out]; exact HH7, hB7⟩
            case measure => simp [intOf]; omega
    · obtain rfl : k = len := by omega
      generalize heldH zs k = M at hH hLl hok hsb ⊢
      have hbd : ∀ x ∈ M, 0 ≤ x.2 ∧ x.2 ≤ 1000000000000 := fun x hx => by have := hok.bd x hx; omega
      have HOK := Lib.hid hok
      have HBD := Lib.hid hbd
      have hsr := hB.out.size
      obtain ⟨S, hS⟩ : ∃ S, S = sumH M A := ⟨_, rfl⟩
      rw [← hS]
      have HSM : Hid (sumH M A = S) := hS.symm
      clear HZ HH2 HB2 hok hsb hbd hS
      go_wp2_with fail
      refine (hold_all HSo.out hH.out (by omega)).mono ?_
      rintro e w3 ⟨v, L, rfl, hP, ⟨ad, cp, rfl, hcells⟩, hb3⟩
      have HB3 : Hid (Below w.heap.size w w3) := hB.out.trans (hb3.mono hsr)
      have hLM := hP.length_eq
      have HPm := Lib.hid hP
      have HC := Lib.hid hcells
      clear hH hB hb3 hP hcells
      go_wp2_with fail
      go_loopw [13, 12] (fun i s wq => ∃ j : Nat, j ≤ L.length ∧ i = .int .i64 j ∧ s = .int .i64 (sumH (L.take j) A) ∧ Hid (Below w3.heap.size w3 wq)) (fun i _ _ => L.length - (intOf i).toNat)
      case atStart => exact ⟨0, Nat.zero_le _, rfl, rfl, Below.refl _ _⟩
      case round =>
        obtain ⟨j, hj, rfl, rfl, hBj⟩ := hrel
        by_cases hjl : j < L.length
        · obtain ⟨x, hx⟩ : ∃ x, L[j]? = some x := ⟨_, List.getElem?_eq_getElem hjl⟩
          obtain ⟨gb, rfl, hgb, c0, c1, c2⟩ := HC.out j x hx
          have d1 := (hBj.out.cell (p := ⟨gb, j * 3 + 1, none⟩) hgb).trans c1
          have d2 := (hBj.out.cell (p := ⟨gb, j * 3 + 2, none⟩) hgb).trans c2
          have hq := HOK.out.bd x (HPm.out.subset (List.mem_of_getElem? hx))
          have hT : L.take (j + 1) = L.take j ++ [x] := by
            obtain ⟨h1, h2⟩ := List.getElem?_eq_some_iff.1 hx
            rw [List.take_succ_eq_append_getElem h1, h2]
          have hS1 : sumH (L.take (j + 1)) A = sumH (L.take j) A + (if x.1.2 = A then x.2 else 0) := by rw [hT, sumH_append, sumH_cons, sumH_nil]; omega
          have hbT := sumH_bd (m := L.take j) (fun y hy => HBD.out y (HPm.out.subset (List.mem_of_mem_take hy))) A
          rw [List.length_take] at hbT
          have hT1 : sumH (L.take j) A ≤ 1000000000000 * 60 := by omega
          have hT0 := hbT.1
          have HS1 := Lib.hid hS1
          generalize x.1.2 = x1 at d1 HS1
          generalize x.2 = x2 at d2 HS1 hq
          clear hx c0 c1 c2 hT hS1 hbT
          generalize sumH (L.take j) A = sj at HS1 hT0 hT1 ⊢
          by_cases hxA : x1 = A
          · have HS2 : Hid (sumH (L.take (j + 1)) A = sj + x2) := by unfold Hid; rw [HS1.out, if_pos hxA]
            subst hxA
            go_wp2_with fail
            go_roundw
            case rel => exact ⟨j + 1, by omega, by go_num, by rw [HS2.out], hBj⟩
            case measure => simp [intOf]; omega
          · have HS2 : Hid (sumH (L.take (j + 1)) A = sj) := by unfold Hid; rw [HS1.out, if_neg hxA]; omega
            go_wp2_with fail
            go_roundw
            case rel => exact ⟨j + 1, by omega, by go_num, by rw [HS2.out], hBj⟩
            case measure => simp [intOf]; omega
        · obtain rfl : j = L.length := by omega
          have HSL : Hid (sumH (L.take L.length) A = S) := by unfold Hid; rw [List.take_length, sumH_perm HPm.out A]; exact HSM.out
          rw [HSL.out]
          go_wp2_with fail
          go_ret
          exact ⟨rfl, HB3.out.trans (hBj.out.mono HB3.out.size)⟩
theorem walk_HoldSums {p : Nat → Addr} {w : World} (hE : Errs (List.range 21) w.heap.size p w) (a : Option Addr) (len cap : Nat) (zs : List Int) (asset : Int) (hz : IsRowsK [true, false, false, false] w a len cap zs) (l0 : -9223372036854775808 ≤ asset) (u0 : asset ≤ 9223372036854775807) :
    Calls Tryd.prog 5 #[.slice a len cap, .int .i64 asset] w fun e w' => e = .returned (.bool true) ∧ Below w.heap.size w w' :=
  sums_walk sortsH hE a len cap zs asset hz l0 u0
end Go.Proofs.YtfecgcdceegdlaaDoor
