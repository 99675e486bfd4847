/- The walk of pledgelaw10.AssetPlays: it returns true, and writes nothing that was there. -/
import Derived.Test.YtfecgcdceegdlaaDoorPlaysSame
import Derived.Test.YtfecgcdceegdlaaDoorMast
import Derived.Test.YtfecgcdceegdlaaDoorFlat
import Derived.Test.YtfecgcdceegdlaaDoorFirst10
import Derived.Deep.RegionHeld3
import Derived.StillTailTactics
import Derived.Deep.RegionLaw
import Derived.Deep.DeepCutAuto
namespace Go.Proofs.YtfecgcdceegdlaaDoor
open Go.Maps
open Go Go.RowKit
set_option linter.unusedSimpArgs false
set_option linter.unusedVariables false

/-- Element k of the row of cells. -/
def elemA (zs : List Int) (k : Nat) : AS := (zs.getD (k * 5) 0, zs.getD (k * 5 + 1) 0, zs.getD (k * 5 + 2) 0, zs.getD (k * 5 + 3) 0, zs.getD (k * 5 + 4) 0)
/-- What is there after k rounds. -/
def haveA (zs : List Int) : Nat → List AS
  | 0 => []
  | k + 1 => nextA (haveA zs k) (elemA zs k)
theorem haveA_len (zs : List Int) : ∀ k, (haveA zs k).length ≤ k
  | 0 => Nat.le_refl _
  | k + 1 => by
    have h1 := haveA_len zs k
    have h2 := nextA_len (haveA zs k) (elemA zs k)
    simp only [haveA]
    omega
theorem findA_neg {L : List AS} {id : Int} : findA L id < 0 → findA L id = -1 := by
  unfold findA
  split
  · intro h; omega
  · intro _; rfl
theorem is_valid {B : Nat} {p : Nat → Addr} {w : World} (hE : Errs (List.range 21) B p w) (x1 x2 x3 x4 x5 : Int) :
    Calls Tryd.prog 18 #[validV p x1 x2 x3 x4 x5, .int .i64 (validN x1 x2 x3 x4 x5)] w fun e w' => e = .returned (.bool true) ∧ Below w.heap.size w w' := by
  cases hv : validA x1 x2 x3 x4 x5 with
  | true => rw [validV_ok hv, validN_ok hv]; exact is_nil 0 w
  | false => rw [validV_bad hv, validN_bad hv]; exact is_ev hE (k := 2) (by decide) 103

set_option maxHeartbeats 16000000 in
set_option maxRecDepth 100000 in
theorem walk_AssetPlays {p : Nat → Addr} {w : World} (hE : Errs (List.range 21) w.heap.size p w) (a : Option Addr) (len cap : Nat) (zs : List Int) (id issuer today : Int) (hz : IsRows 5 w a len cap zs) (l0 : -9223372036854775808 ≤ id) (u0 : id ≤ 9223372036854775807) (l1 : -9223372036854775808 ≤ issuer) (u1 : issuer ≤ 9223372036854775807) (l2 : -9223372036854775808 ≤ today) (u2 : today ≤ 9223372036854775807) :
    Calls Tryd.prog 4 #[.slice a len cap, .int .i64 id, .int .i64 issuer, .int .i64 today] w fun e w' => e = .returned (.bool true) ∧ Below w.heap.size w w' := by
  have HE := Lib.hid hE; clear hE
  by_cases hl : 40 < len
  · have hl1 : decide ((40 : Int) < len) = true := decide_eq_true (by omega)
    clear hz hl
    go_enter Tryd.func4, Tryd.ntmps4
    go_wp2_with fail
    refine (first10_calls w).mono ?_
    rintro e w1 ⟨rfl, hb1⟩
    go_wp2_with fail
    go_ret
    exact ⟨rfl, hb1⟩
  have hl1 : decide ((40 : Int) < len) = false := decide_eq_false (by omega)
  have HZ := Lib.hid hz
  have hwid : (Lit.int .i64 id).wf = true := i64wf l0 u0
  clear hz
  go_enter Tryd.func4, Tryd.ntmps4
  go_wp2_with fail
  refine (first10_calls w).mono ?_
  rintro e w1 ⟨rfl, hb1⟩
  have hs1 := hb1.size
  go_wp2_with fail
  obtain ⟨w2, hw2⟩ : ∃ w2, w2 = w1.alloc (Obj.cells #[.map none] 27) := ⟨_, rfl⟩
  have HM2 : Hid (Mast w.heap.size w2 w1.heap.size none []) := by rw [hw2]; exact mast_new _ _
  have HB2 : Hid (Below w.heap.size w w2) := by rw [hw2]; unfold Hid; (repeat (first | exact Below.refl _ _ | assumption | refine Below.drew ?_ | refine below_many ?_ _ | refine Below.alloc ?_ (by first | (simp; done) | (simp; omega) | omega) _ | refine Below.setCell ?_ (by first | (simp; done) | (simp; omega) | omega) _))
  rw [← hw2]
  have hw2s : w1.heap.size < w2.heap.size := by rw [hw2]; simp
  generalize w1.heap.size = tb at HM2 hw2s hs1 ⊢
  clear hw2 hb1
  go_loopw [12, 11] (fun i v wr => ∃ k : Nat, k ≤ len ∧ i = .int .i64 k ∧ ∃ r, Hid (Mast w.heap.size wr tb r (haveA zs k)) ∧ Hid (RdA wr v (haveA zs k)) ∧ Hid (∀ g, v.ownBlock = some g → g ≠ tb ∧ r ≠ some g) ∧ Hid (Below w.heap.size w wr) ∧ tb < wr.heap.size) (fun i _ _ => len - (intOf i).toNat)
  case atStart => exact ⟨0, by omega, rfl, none, HM2, RdA.nil _, (fun g hg => by simp [Value.ownBlock] at hg), HB2, hw2s⟩
  case round =>
    obtain ⟨k, hk, rfl, r, hM, hR, hA, hB, htw⟩ := hrel
    have hLl := haveA_len zs k
    by_cases hkl : k < len
    · obtain ⟨b, off, rfl, hbw, hzl, hlc, hcm, hcell, hwf⟩ := HZ.out.open (by decide) (by omega)
      unfold maxLen at hcm
      have D0 := hcell (k * 5) (by omega)
      have D1 := hcell (k * 5 + 1) (by omega)
      have D2 := hcell (k * 5 + 2) (by omega)
      have D3 := hcell (k * 5 + 3) (by omega)
      have D4 := hcell (k * 5 + 4) (by omega)
      rw [← Nat.add_assoc] at D1 D2 D3 D4
      have HN : Hid (haveA zs (k + 1) = nextA (haveA zs k) (elemA zs k)) := rfl
      unfold elemA at HN
      generalize zs.getD (k * 5) 0 = x1 at D0 HN
      generalize zs.getD (k * 5 + 1) 0 = x2 at D1 HN
      generalize zs.getD (k * 5 + 2) 0 = x3 at D2 HN
      generalize zs.getD (k * 5 + 3) 0 = x4 at D3 HN
      generalize zs.getD (k * 5 + 4) 0 = x5 at D4 HN
      have HLN := haveA_len zs (k + 1)
      rw [HN.out] at HLN
      generalize haveA zs k = L at hM hR HN hLl HLN ⊢
      clear hcell hwf HM2 HB2
      have hsr := hB.out.size
      obtain ⟨ad, cp, hv, hlc', hcm'⟩ := hR.out.len
      subst hv
      have d0 := (hB.out.cell (p := ⟨b, off + k * 5, none⟩) hbw).trans D0
      have d1 := (hB.out.cell (p := ⟨b, off + k * 5 + 1, none⟩) hbw).trans D1
      have d2 := (hB.out.cell (p := ⟨b, off + k * 5 + 2, none⟩) hbw).trans D2
      have d3 := (hB.out.cell (p := ⟨b, off + k * 5 + 3, none⟩) hbw).trans D3
      have d4 := (hB.out.cell (p := ⟨b, off + k * 5 + 4, none⟩) hbw).trans D4
      go_wp2_with fail
      refine (addRef_calls hR.out (by omega) (x1, x2, x3, x4, x5)).mono ?_
      rintro e w3 ⟨v3, rfl, hR3, hfr, hb3⟩
      have hM3 := hM.out.below hb3
      have hN3 := hB.out.trans (hb3.mono hsr)
      have hA3 : Hid (∀ g, v3.ownBlock = some g → g ≠ tb ∧ r ≠ some g) := by
        intro g hg
        rcases hfr with rfl | hfr
        · exact hA.out g hg
        · have h1 := hfr g hg
          refine ⟨by omega, fun e => ?_⟩
          have := hM.out.mlt g e
          omega
      have hs3 := hb3.size
      have HMn : Hid (Mast w.heap.size w3.drew tb r L) := hM3.below (Below.refl _ _).drew
      have HRn : Hid (RdA w3.drew v3 (nextA L (x1, x2, x3, x4, x5))) := hR3.below (Below.refl _ _).drew
      have hN : Below w.heap.size w w3.drew := hN3.drew
      have htw3 : tb < w3.heap.size := Nat.lt_of_lt_of_le htw hs3
      have hs3' := hN3.size
      obtain ⟨ad3, cp3, hv3, _, _⟩ := hR3.len
      subst hv3
      have HC := Lib.hid (errA_code L (x1, x2, x3, x4, x5))
      generalize hL2 : nextA L (x1, x2, x3, x4, x5) = L2 at HN HRn HLN hR3 hA3 ⊢
      have HL2 := Lib.hid hL2
      clear hL2
      clear hM hR hA hB hM3 hR3 hfr hb3 hlc' hcm' d0 d1 d2 d3 d4
      go_wp2_with fail
      go_region_held3 (fun wq => wq.cell? ⟨b, off + k * 5, none⟩ = some (.int .i64 x1) ∧ wq.cell? ⟨b, off + k * 5 + 1, none⟩ = some (.int .i64 x2) ∧ wq.cell? ⟨b, off + k * 5 + 2, none⟩ = some (.int .i64 x3) ∧ wq.cell? ⟨b, off + k * 5 + 3, none⟩ = some (.int .i64 x4) ∧ wq.cell? ⟨b, off + k * 5 + 4, none⟩ = some (.int .i64 x5) ∧ Below w.heap.size w wq)
        ((repeat' apply And.intro) <;> (first | exact hN | exact (hN.cell (p := ⟨b, off + k * 5, none⟩) hbw).trans D0 | exact (hN.cell (p := ⟨b, off + k * 5 + 1, none⟩) hbw).trans D1 | exact (hN.cell (p := ⟨b, off + k * 5 + 2, none⟩) hbw).trans D2 | exact (hN.cell (p := ⟨b, off + k * 5 + 3, none⟩) hbw).trans D3 | exact (hN.cell (p := ⟨b, off + k * 5 + 4, none⟩) hbw).trans D4))
        (first
          | (go_at_call 22; refine (valid_calls (HE.out.below hN) (by decide) x1 x2 x3 x4 x5).mono ?_; rintro e w4 ⟨rfl, hb⟩; have HMn := Lib.hid (HMn.out.below hb); have HRn := Lib.hid (HRn.out.below hb); have hN := hN.trans (hb.mono hN.size))
          | (go_at_call 23; refine (validRef_calls x1 x2 x3 x4 x5).mono ?_; rintro e w5 ⟨rfl, hb⟩; have HMn := Lib.hid (HMn.out.below hb); have HRn := Lib.hid (HRn.out.below hb); have hN := hN.trans (hb.mono hN.size))
          | (go_at_call 18; (first | refine (is_valid (HE.out.below hN) x1 x2 x3 x4 x5).mono ?_ | refine (is_evA (HE.out.below hN) HC.out).mono ?_); rintro e w6 ⟨rfl, hb⟩; have HMn := Lib.hid (HMn.out.below hb); have HRn := Lib.hid (HRn.out.below hb); have hN := hN.trans (hb.mono hN.size))
          | (go_at_call 17; go_loud (refine (mast_add (HE.out.below hN) (by decide) (by decide) HMn.out hN.size hs1 (x1, x2, x3, x4, x5)).mono ?_); go_loud (rintro e w7 ⟨rfl, r7, hM7, hr7, hk7⟩; rw [HL2.out] at hM7; have HA7 : Hid (∀ g, (Value.slice ad3 L2.length cp3).ownBlock = some g → g ≠ tb ∧ r7 ≠ some g) := (fun g hg => ⟨(hA3.out g hg).1, fun e => by rcases hr7 with e1 | ⟨nb, e1, hnb⟩; exact (hA3.out g hg).2 (by rw [← e1]; exact e); have := HRn.out.blk g hg; rw [e1] at e; cases e; omega⟩); have HRn := Lib.hid (HRn.out.keep hk7 (fun g hg e => by rcases e with e | e; exact (hA3.out g hg).1 e; exact (hA3.out g hg).2 e)); have hb7 : Below w.heap.size _ w7 := hk7.below hN.size (fun x hx e => by rcases e with e | e; omega; have := HMn.out.mlo x e; omega); have HMn := Lib.hid hM7; have hN := hN.trans hb7; clear hb7 hk7 hr7 hM7))
          | (go_at_call 24; refine (live_calls x1 x2 x3 x4 x5 today _).mono ?_; rintro e w8 ⟨rfl, hb⟩; have HMn := Lib.hid (HMn.out.below hb); have HRn := Lib.hid (HRn.out.below hb); have hN := hN.trans (hb.mono hN.size))
          | (go_at_call 25; refine (liveRef_calls x1 x2 x3 x4 x5 today _).mono ?_; rintro e w9 ⟨rfl, hb⟩; have HMn := Lib.hid (HMn.out.below hb); have HRn := Lib.hid (HRn.out.below hb); have hN := hN.trans (hb.mono hN.size))
          | (go_at_call 26; refine (cash_calls x1 x2 x3 x4 x5 _).mono ?_; rintro e w10 ⟨rfl, hb⟩; have HMn := Lib.hid (HMn.out.below hb); have HRn := Lib.hid (HRn.out.below hb); have hN := hN.trans (hb.mono hN.size)))
      have htw10 : tb < w10.heap.size := HMn.out.lt
      go_wp2_with fail
      go_roundw
      case rel => exact ⟨k + 1, by omega, by go_num, r7, by rw [HN.out]; exact HMn, by rw [HN.out]; exact HRn, HA7, hN, htw10⟩
      case measure => simp [intOf]; omega
    · obtain rfl : k = len := by omega
      generalize haveA zs k = L at hM hR hLl
      obtain ⟨ad, cp, hv, hlc', hcm'⟩ := hR.out.len
      subst hv
      clear HZ HM2 HB2 hA
      go_wp2_with fail
      refine (findRef_calls hR.out id).mono ?_
      rintro e _ ⟨rfl, rfl⟩
      go_wp2_with fail
      refine (mast_get hM.out id hwid).mono ?_
      rintro e w4 ⟨⟨x, rfl, hx⟩, hb4⟩
      have HM4 := Lib.hid (hM.out.below hb4)
      have HR4 := Lib.hid (hR.out.below hb4)
      have HB4 : Hid (Below w.heap.size w w4) := hB.out.trans (hb4.mono hB.out.size)
      obtain ⟨x1, x2, x3, x4, x5⟩ := x
      have hm1 := findA_neg (L := L) (id := id)
      generalize findA L id = n at hx hm1 ⊢
      clear hM hR hB hb4
      go_upto_region 17 with fail
      obtain ⟨w5, hw5⟩ : ∃ w5, w5 = w4.alloc (Obj.cells #[.int .i64 x1, .int .i64 x2, .int .i64 x3, .int .i64 x4, .int .i64 x5] 29) := ⟨_, rfl⟩
      rw [← hw5]
      have hb5 : Below w4.heap.size w4 w5 := by rw [hw5]; (repeat (first | exact Below.refl _ _ | assumption | refine Below.drew ?_ | refine below_many ?_ _ | refine Below.alloc ?_ (by first | (simp; done) | (simp; omega) | omega) _ | refine Below.setCell ?_ (by first | (simp; done) | (simp; omega) | omega) _))
      have hs5 : w4.heap.size < w5.heap.size := by rw [hw5]; simp
      have C0 : w5.cell? ⟨w4.heap.size, 0, none⟩ = some (.int .i64 x1) := by rw [hw5]; go_simp
      have C1 : w5.cell? ⟨w4.heap.size, 1, none⟩ = some (.int .i64 x2) := by rw [hw5]; go_simp
      have C2 : w5.cell? ⟨w4.heap.size, 2, none⟩ = some (.int .i64 x3) := by rw [hw5]; go_simp
      have C3 : w5.cell? ⟨w4.heap.size, 3, none⟩ = some (.int .i64 x4) := by rw [hw5]; go_simp
      have C4 : w5.cell? ⟨w4.heap.size, 4, none⟩ = some (.int .i64 x5) := by rw [hw5]; go_simp
      have HB5 : Hid (Below w.heap.size w w5) := HB4.out.trans (hb5.mono HB4.out.size)
      have HMn : Hid (Mast w.heap.size w5.drew tb r L) := (HM4.out.below hb5).below (Below.refl _ _).drew
      have HR5 := HR4.out.below hb5
      have HRn : Hid (RdA w5.drew (.slice ad L.length cp) L) := HR5.below (Below.refl _ _).drew
      have hW : Below w5.heap.size w5 w5.drew := (Below.refl _ _).drew
      clear hw5
      go_cut [17, 127] (fun _ s wx => s = .bool false ∧ Hid (Mast w.heap.size wx tb r L) ∧ Hid (RdA wx (.slice ad L.length cp) L) ∧ Hid (Below w.heap.size w wx))
      case first =>
        by_cases hn : 0 ≤ n
        · obtain ⟨q, hq, hxq⟩ := hx hn
          rw [show decide (0 ≤ n) = true from decide_eq_true hn]
          subst hq
          clear hx hm1
          obtain ⟨g, cap', hv, hg, _, _, E0, E1, E2, E3, E4⟩ := HR5.at hxq
          have hql : q < L.length := (List.getElem?_eq_some_iff.1 hxq).1
          simp only [Value.slice.injEq, true_and] at hv
          obtain ⟨rfl, rfl⟩ := hv
          try dsimp only at E0 E1 E2 E3 E4
          have hd : decide (0 ≤ (q : Int)) = true := decide_eq_true (by omega)
          clear hxq HR5 hb5
          go_region_held3 (fun wq => wq.cell? ⟨w4.heap.size, 0, none⟩ = some (.int .i64 x1) ∧ wq.cell? ⟨w4.heap.size, 1, none⟩ = some (.int .i64 x2) ∧ wq.cell? ⟨w4.heap.size, 2, none⟩ = some (.int .i64 x3) ∧ wq.cell? ⟨w4.heap.size, 3, none⟩ = some (.int .i64 x4) ∧ wq.cell? ⟨w4.heap.size, 4, none⟩ = some (.int .i64 x5) ∧ wq.cell? ⟨g, q * 5, none⟩ = some (.int .i64 x1) ∧ wq.cell? ⟨g, q * 5 + 1, none⟩ = some (.int .i64 x2) ∧ wq.cell? ⟨g, q * 5 + 2, none⟩ = some (.int .i64 x3) ∧ wq.cell? ⟨g, q * 5 + 3, none⟩ = some (.int .i64 x4) ∧ wq.cell? ⟨g, q * 5 + 4, none⟩ = some (.int .i64 x5))
              ((repeat' apply And.intro) <;> (first | exact (hW.cell (p := ⟨w4.heap.size, 0, none⟩) hs5).trans C0 | exact (hW.cell (p := ⟨w4.heap.size, 1, none⟩) hs5).trans C1 | exact (hW.cell (p := ⟨w4.heap.size, 2, none⟩) hs5).trans C2 | exact (hW.cell (p := ⟨w4.heap.size, 3, none⟩) hs5).trans C3 | exact (hW.cell (p := ⟨w4.heap.size, 4, none⟩) hs5).trans C4 | exact (hW.cell (p := ⟨g, q * 5, none⟩) hg).trans E0 | exact (hW.cell (p := ⟨g, q * 5 + 1, none⟩) hg).trans E1 | exact (hW.cell (p := ⟨g, q * 5 + 2, none⟩) hg).trans E2 | exact (hW.cell (p := ⟨g, q * 5 + 3, none⟩) hg).trans E3 | exact (hW.cell (p := ⟨g, q * 5 + 4, none⟩) hg).trans E4))
              (first
                | (go_at_call 29; refine (sameAsset_eq x1 x2 x3 x4 x5 _).mono ?_; rintro e w6 ⟨rfl, hb⟩; have HMn := Lib.hid (HMn.out.below hb); have HRn := Lib.hid (HRn.out.below hb); have hW := hW.trans (hb.mono hW.size))
                | (go_at_call 19; refine (mast_all HMn.out (by omega)).mono ?_; rintro e w7 ⟨v7, rfl, hO7, hb⟩; have HO7 := Lib.hid hO7.rd; obtain ⟨ad7, cp7, hv7, _, _⟩ := HO7.out.len; subst hv7; have HMn := Lib.hid (HMn.out.below hb); have HRn := Lib.hid (HRn.out.below hb); have hW := hW.trans (hb.mono hW.size))
                | (go_at_call 30; refine (sameAssets_calls HO7.out HRn.out).mono ?_; rintro e w8 ⟨rfl, hb⟩; have HMn := Lib.hid (HMn.out.below hb); have HRn := Lib.hid (HRn.out.below hb); have hW := hW.trans (hb.mono hW.size)))
          all_goals
            have HBm : Hid (Below w.heap.size w _) := HB5.out.trans (hW.mono HB5.out.size)
            go_wp2_with fail
            go_meet
            case rel => exact ⟨rfl, HMn, HRn, HBm⟩
        · clear hx
          rw [show decide (0 ≤ n) = false from decide_eq_false hn]
          obtain rfl : n = -1 := hm1 (by omega)
          clear hm1 HR5 hb5 C0 C1 C2 C3 C4
          refine wp_region_held_drew (S := fun wq => Below w5.heap.size w5 wq) (by kernel_rfl) hW (fun hHeld => ?_)
          refine wpAnyH_take (i := 0) (v := (.bool false)) rfl (by kernel_rfl) (by kernel_rfl) (by kernel_rfl) (fun _ _ _ h => h) (Or.inl ⟨by rfl, fun w hSw => by go_simp⟩) hHeld ?_
          try simp only [Act.put, List.getElem_toArray, List.getElem_cons_succ, List.getElem_cons_zero, List.setIfInBounds_toArray, List.set_cons_zero, List.set_cons_succ]
          refine wpAnyH_take (i := 1) (v := (.int .i64 (-1))) rfl (by kernel_rfl) (by kernel_rfl) (by kernel_rfl) (fun _ _ _ h => h) (Or.inl ⟨by rfl, fun w hSw => by go_simp⟩) hHeld ?_
          try simp only [Act.put, List.getElem_toArray, List.getElem_cons_succ, List.getElem_cons_zero, List.setIfInBounds_toArray, List.set_cons_zero, List.set_cons_succ]
          refine wpAnyH_take (i := 2) (v := (.bool false)) rfl (by kernel_rfl) (by kernel_rfl) (by kernel_rfl) (fun _ _ _ h => h) (Or.inl ⟨by rfl, fun w hSw => by go_simp⟩) hHeld ?_
          try simp only [Act.put, List.getElem_toArray, List.getElem_cons_succ, List.getElem_cons_zero, List.setIfInBounds_toArray, List.set_cons_zero, List.set_cons_succ]
          refine wpAnyH_take (i := 3) (v := (.bool false)) rfl (by kernel_rfl) (by kernel_rfl) (by kernel_rfl) (fun _ _ _ h => h) (Or.inl ⟨by rfl, fun w hSw => by go_simp⟩) hHeld ?_
          try simp only [Act.put, List.getElem_toArray, List.getElem_cons_succ, List.getElem_cons_zero, List.setIfInBounds_toArray, List.set_cons_zero, List.set_cons_succ]
          refine wpAnyH_take (i := 4) (v := (.bool false)) rfl (by kernel_rfl) (by kernel_rfl) (by kernel_rfl) (fun _ _ _ h => h) (Or.inl ⟨by rfl, fun w hSw => by go_simp⟩) hHeld ?_
          try simp only [Act.put, List.getElem_toArray, List.getElem_cons_succ, List.getElem_cons_zero, List.setIfInBounds_toArray, List.set_cons_zero, List.set_cons_succ]
          refine wpAnyH_take (i := 5) (v := (.bool false)) rfl (by kernel_rfl) (by kernel_rfl) (by kernel_rfl) (fun _ _ _ h => h) (Or.inl ⟨by rfl, fun w hSw => by go_simp⟩) hHeld ?_
          try simp only [Act.put, List.getElem_toArray, List.getElem_cons_succ, List.getElem_cons_zero, List.setIfInBounds_toArray, List.set_cons_zero, List.set_cons_succ]
          refine wpAnyH_take (i := 6) (v := (.bool false)) rfl (by kernel_rfl) (by kernel_rfl) (by kernel_rfl) (fun _ _ _ h => h) (Or.inl ⟨by rfl, fun w hSw => by go_simp⟩) hHeld ?_
          try simp only [Act.put, List.getElem_toArray, List.getElem_cons_succ, List.getElem_cons_zero, List.setIfInBounds_toArray, List.set_cons_zero, List.set_cons_succ]
          refine wpAnyH_take (i := 7) (v := undef) rfl (by kernel_rfl) (by kernel_rfl) (by kernel_rfl) (fun _ _ _ h => h) (Or.inr ⟨by rfl, rfl⟩) hHeld ?_
          try simp only [Act.put, List.getElem_toArray, List.getElem_cons_succ, List.getElem_cons_zero, List.setIfInBounds_toArray, List.set_cons_zero, List.set_cons_succ]
          refine wpAnyH_take (i := 8) (v := undef) rfl (by kernel_rfl) (by kernel_rfl) (by kernel_rfl) (fun _ _ _ h => h) (Or.inr ⟨by rfl, rfl⟩) hHeld ?_
          try simp only [Act.put, List.getElem_toArray, List.getElem_cons_succ, List.getElem_cons_zero, List.setIfInBounds_toArray, List.set_cons_zero, List.set_cons_succ]
          refine wpAnyH_take (i := 9) (v := undef) rfl (by kernel_rfl) (by kernel_rfl) (by kernel_rfl) (fun _ _ _ h => h) (Or.inr ⟨by rfl, rfl⟩) hHeld ?_
          try simp only [Act.put, List.getElem_toArray, List.getElem_cons_succ, List.getElem_cons_zero, List.setIfInBounds_toArray, List.set_cons_zero, List.set_cons_succ]
          refine wpAnyH_take (i := 10) (v := undef) rfl (by kernel_rfl) (by kernel_rfl) (by kernel_rfl) (fun _ _ _ h => h) (Or.inr ⟨by rfl, rfl⟩) hHeld ?_
          try simp only [Act.put, List.getElem_toArray, List.getElem_cons_succ, List.getElem_cons_zero, List.setIfInBounds_toArray, List.set_cons_zero, List.set_cons_succ]
          refine wpAnyH_take (i := 11) (v := undef) rfl (by kernel_rfl) (by kernel_rfl) (by kernel_rfl) (fun _ _ _ h => h) (Or.inr ⟨by rfl, rfl⟩) hHeld ?_
          try simp only [Act.put, List.getElem_toArray, List.getElem_cons_succ, List.getElem_cons_zero, List.setIfInBounds_toArray, List.set_cons_zero, List.set_cons_succ]
          refine wpAnyH_take (i := 12) (v := undef) rfl (by kernel_rfl) (by kernel_rfl) (by kernel_rfl) (fun _ _ _ h => h) (Or.inr ⟨by rfl, rfl⟩) hHeld ?_
          try simp only [Act.put, List.getElem_toArray, List.getElem_cons_succ, List.getElem_cons_zero, List.setIfInBounds_toArray, List.set_cons_zero, List.set_cons_succ]
          refine wpAnyH_take (i := 13) (v := undef) rfl (by kernel_rfl) (by kernel_rfl) (by kernel_rfl) (fun _ _ _ h => h) (Or.inr ⟨by rfl, rfl⟩) hHeld ?_
          try simp only [Act.put, List.getElem_toArray, List.getElem_cons_succ, List.getElem_cons_zero, List.setIfInBounds_toArray, List.set_cons_zero, List.set_cons_succ]
          refine wpAnyH_take (i := 14) (v := (.bool false)) rfl (by kernel_rfl) (by kernel_rfl) (by kernel_rfl) (fun _ _ _ h => h) (Or.inl ⟨by rfl, fun w hSw => by go_simp⟩) hHeld ?_
          try simp only [Act.put, List.getElem_toArray, List.getElem_cons_succ, List.getElem_cons_zero, List.setIfInBounds_toArray, List.set_cons_zero, List.set_cons_succ]
          refine wpAnyH_take (i := 15) (v := (.bool false)) rfl (by kernel_rfl) (by kernel_rfl) (by kernel_rfl) (fun _ _ _ h => h) (Or.inl ⟨by rfl, fun w hSw => by go_simp⟩) hHeld ?_
          try simp only [Act.put, List.getElem_toArray, List.getElem_cons_succ, List.getElem_cons_zero, List.setIfInBounds_toArray, List.set_cons_zero, List.set_cons_succ]
          refine wpAnyH_take (i := 16) (v := (.bool false)) rfl (by kernel_rfl) (by kernel_rfl) (by kernel_rfl) (fun _ _ _ h => h) (Or.inl ⟨by rfl, fun w hSw => by go_simp⟩) hHeld ?_
          try simp only [Act.put, List.getElem_toArray, List.getElem_cons_succ, List.getElem_cons_zero, List.setIfInBounds_toArray, List.set_cons_zero, List.set_cons_succ]
          refine wpAnyH_take (i := 18) (v := (.slice ad L.length cp)) rfl (by kernel_rfl) (by kernel_rfl) (by kernel_rfl) (fun _ _ _ h => h) (Or.inl ⟨by rfl, fun w hSw => by go_simp⟩) hHeld ?_
          try simp only [Act.put, List.getElem_toArray, List.getElem_cons_succ, List.getElem_cons_zero, List.setIfInBounds_toArray, List.set_cons_zero, List.set_cons_succ]
          refine wpAnyH_ready (rs := [17]) (by kernel_rfl) (by simp) ?_
          refine AllReadyH.cons rfl (fun K hK => ?_) AllReadyH.nil
          go_simp
          go_at_call 19
          refine (mast_all HMn.out (by omega)).mono ?_
          rintro e w7 ⟨v7, rfl, hO7, hb⟩
          have HO7 := Lib.hid hO7.rd
          obtain ⟨ad7, cp7, hv7, _, _⟩ := HO7.out.len
          subst hv7
          have HMn := Lib.hid (HMn.out.below hb)
          have HRn := Lib.hid (HRn.out.below hb)
          have hW := hW.trans (hb.mono hW.size)
          refine hK.out _ _ hW (fun hHeld => ?_)
          clear hK K
          try simp only [Act.put, List.getElem_toArray, List.getElem_cons_succ, List.getElem_cons_zero, List.setIfInBounds_toArray, List.set_cons_zero, List.set_cons_succ]
          refine wpAnyH_ready (rs := [19]) (by kernel_rfl) (by simp) ?_
          refine AllReadyH.cons rfl (fun K hK => ?_) AllReadyH.nil
          go_simp
          go_at_call 30
          refine (sameAssets_calls HO7.out HRn.out).mono ?_
          rintro e w8 ⟨rfl, hb⟩
          have HMn := Lib.hid (HMn.out.below hb)
          have HRn := Lib.hid (HRn.out.below hb)
          have hW := hW.trans (hb.mono hW.size)
          refine hK.out _ _ hW (fun hHeld => ?_)
          clear hK K
          try simp only [Act.put, List.getElem_toArray, List.getElem_cons_succ, List.getElem_cons_zero, List.setIfInBounds_toArray, List.set_cons_zero, List.set_cons_succ]
          refine wpAnyH_take (i := 20) (v := (.bool false)) rfl (by kernel_rfl) (by kernel_rfl) (by kernel_rfl) (fun _ _ _ h => h) (Or.inl ⟨by rfl, fun w hSw => by go_simp⟩) hHeld ?_
          try simp only [Act.put, List.getElem_toArray, List.getElem_cons_succ, List.getElem_cons_zero, List.setIfInBounds_toArray, List.set_cons_zero, List.set_cons_succ]
          refine wpAnyH_take (i := 21) (v := (.bool false)) rfl (by kernel_rfl) (by kernel_rfl) (by kernel_rfl) (fun _ _ _ h => h) (Or.inl ⟨by rfl, fun w hSw => by go_simp⟩) hHeld ?_
          try simp only [Act.put, List.getElem_toArray, List.getElem_cons_succ, List.getElem_cons_zero, List.setIfInBounds_toArray, List.set_cons_zero, List.set_cons_succ]
          refine wpAnyH_done (by kernel_rfl) ?_ _
          all_goals
            have HBm : Hid (Below w.heap.size w _) := HB5.out.trans (hW.mono HB5.out.size)
            go_wp2_with fail
            go_meet
            case rel => exact ⟨rfl, HMn, HRn, HBm⟩
      case rest =>
        obtain ⟨rfl, HMn, HRn, HBc⟩ := hcut
        have HB8 : Hid (Below w.heap.size w wc) := HBc.out
        have HI : Hid (issA L issuer = (L.filter fun a => decide (a.2.1 = issuer)).map (·.1)) := rfl
        go_wp2_with fail
        go_loopw [19, 18] (fun i u wq => ∃ k : Nat, k ≤ L.length ∧ i = .int .i64 k ∧ Hid (OwnI 3 wc.heap.size wq u (((L.take k).filter fun a => decide (a.2.1 = issuer)).map (·.1))) ∧ Hid (Below wc.heap.size wc wq)) (fun i _ _ => L.length - (intOf i).toNat)
        case atStart => exact ⟨0, Nat.zero_le _, rfl, OwnI.nil _ _ _, Below.refl _ _⟩
        case round =>
          obtain ⟨k, hk, rfl, hA, hB⟩ := hrel
          have hsr := hB.out.size
          by_cases hkl : k < L.length
          · obtain ⟨x, hx⟩ : ∃ x, L[k]? = some x := ⟨_, List.getElem?_eq_getElem hkl⟩
            obtain ⟨g1, c1, hv, hg1, _, _, d0, d1, d2, d3, d4⟩ := (HRn.out.below hB.out).at hx
            simp only [Value.slice.injEq, true_and, Option.some.injEq, Addr.mk.injEq, and_true] at hv
            obtain ⟨rfl, rfl⟩ := hv
            have HX := Lib.hid (take_snocA hx)
            obtain ⟨y1, y2, y3, y4, y5⟩ := x
            try dsimp only at d0 d1 d2 d3 d4
            clear hx d2 d3 d4
            by_cases hxi : y2 = issuer
            · have HT : Hid (((L.take (k + 1)).filter (fun a => decide (a.2.1 = issuer))).map (·.1) = ((L.take k).filter (fun a => decide (a.2.1 = issuer))).map (·.1) ++ [y1]) := by
                unfold Hid; rw [HX.out, List.filter_append, List.map_append]; simp [hxi]
              have HFL : Hid ((((L.take k).filter fun a => decide (a.2.1 = issuer)).map (·.1)).length ≤ 1000) := by
                unfold Hid
                rw [List.length_map]
                exact Nat.le_trans (List.length_filter_le _ _) (by rw [List.length_take]; omega)
              go_wp2_with (at_builtin; refine wpList_app1 rfl _ _ 24 rfl 3 Tryd.underlying24 infoI wc.heap.size _ (((L.take k).filter fun a => decide (a.2.1 = issuer)).map (·.1)) rfl (hA.out.alloc _) wr.heap.size 1 y1 rfl ?c1 ?c2 ?c3 ?_)
              case c2 => have := HFL.out; rw [List.length_map] at this; omega
              case c3 => first | omega | (simp; omega)
              intro v5 w10 hO10 hb10
              have HO10 : Hid (OwnI 3 wc.heap.size w10 v5 (((L.take (k + 1)).filter fun a => decide (a.2.1 = issuer)).map (·.1))) := by unfold Hid; rw [HT.out]; exact hO10
              have HB10 : Hid (Below wc.heap.size wc w10) := Below.trans (show Below wc.heap.size wc _ by have := hB.out; (repeat (first | exact Below.refl _ _ | assumption | refine Below.drew ?_ | refine below_many ?_ _ | refine Below.alloc ?_ (by first | (simp; done) | (simp; omega) | omega) _ | refine Below.setCell ?_ (by first | (simp; done) | (simp; omega) | omega) _))) hb10
              clear hO10 hb10 hA hB d0 d1
              go_wp2_with fail
              go_roundw
              case rel => exact ⟨k + 1, by omega, by go_num, HO10, HB10⟩
              case measure => simp [intOf]; omega
            · have HT : Hid (((L.take (k + 1)).filter (fun a => decide (a.2.1 = issuer))).map (·.1) = ((L.take k).filter (fun a => decide (a.2.1 = issuer))).map (·.1)) := by
                unfold Hid; rw [HX.out, List.filter_append, List.map_append]; simp [hxi]
              have HO10 : Hid (OwnI 3 wc.heap.size wr u18 (((L.take (k + 1)).filter fun a => decide (a.2.1 = issuer)).map (·.1))) := by unfold Hid; rw [HT.out]; exact hA.out
              clear hA
              go_wp2_with fail
              go_roundw
              case rel => exact ⟨k + 1, by omega, by go_num, HO10, hB⟩
              case measure => simp [intOf]; omega
          · obtain rfl : k = L.length := by omega
            have hA' := hA.out
            rw [List.take_length, ← HI.out] at hA'
            obtain ⟨adu, cpu, hu⟩ := hA'.len
            subst hu
            have HA' := Lib.hid hA'
            have HIl : Hid ((issA L issuer).length ≤ 1000000) := by
              unfold Hid
              rw [HI.out, List.length_map]
              exact Nat.le_trans (List.length_filter_le _ _) (by omega)
            have HMe := Lib.hid (HMn.out.below hB.out)
            have HBe : Hid (Below w.heap.size w wr) := HB8.out.trans (hB.out.mono HB8.out.size)
            clear hA hA' hB HB8
            go_wp2_with fail
            refine (mast_of HMe.out (by omega) issuer).mono ?_
            rintro e w9 ⟨v9, rfl, hO9, hb9⟩
            obtain ⟨ad9, cp9, hv9⟩ := hO9.len
            subst hv9
            have HO9 := Lib.hid hO9
            have HA9 := Lib.hid (HA'.out.below hb9)
            have HB9 : Hid (Below w.heap.size w w9) := HBe.out.trans (hb9.mono HBe.out.size)
            clear hO9 hb9 HA' HBe
            go_wp2_with fail
            refine (sameInts_calls HO9.out HA9.out HIl.out).mono ?_
            rintro e w11 ⟨rfl, hb11⟩
            have HB11 : Hid (Below w.heap.size w w11) := HB9.out.trans (hb11.mono HB9.out.size)
            clear hb11
            go_wp2_with fail
            go_ret
            exact ⟨rfl, HB11.out⟩
end Go.Proofs.YtfecgcdceegdlaaDoor
