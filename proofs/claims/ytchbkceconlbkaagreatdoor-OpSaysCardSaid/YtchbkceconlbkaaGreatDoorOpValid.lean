/- op.Valid: what is amiss with an operation. (Written by gen_valid.py.) -/
import Derived.Test.YtchbkceconlbkaaGreatDoorOpBase
import Derived.Deep.RegionHeld3
import Derived.Deep.DeepCutAuto
namespace Go.Proofs.YtchbkceconlbkaaGreatDoor
open Go Go.RowKit
set_option linter.unusedSimpArgs false
set_option linter.unusedVariables false

def mostI (j : Nat) : Int := if j < 4 then 1048576 else 1000000000000000
/-- The letter of field j. -/
def letterAt : Nat → UInt8
  | 0 => 65
  | 1 => 66
  | 2 => 67
  | 3 => 68
  | 4 => 78
  | _ => 77
/-- Does kind k use field j? -/
def usesHas (k : Int) (j : Nat) : Bool := Lib.contains (usesB k.toNat).data.toList [letterAt j]
def fieldBad (k : Int) (j : Nat) (x : Int) : Bool := decide (x < 0) || decide (mostI j < x) || (x != 0 && !usesHas k j)
def validC (id k a b c d n m : Int) : Nat :=
  if id < 1 ∨ 1099511627776 < id then 1 else if isK k = false then 2 else if (List.range 6).any (fun j => fieldBad k j (fieldAt a b c d n m j)) = true then 1 else 0
/-- The answer as an error, and as the reference's number. -/
def valV (p : Nat → Addr) : Nat → Value
  | 0 => .nilIface
  | 1 => ev p 2
  | _ => ev p 10
theorem validC_ok {id k a b c d n m : Int} (h1 : 1 ≤ id) (h2 : id ≤ 1099511627776) (h3 : isK k = true) (h4 : ∀ j, j < 6 → fieldBad k j (fieldAt a b c d n m j) = false) : validC id k a b c d n m = 0 := by
  unfold validC
  rw [if_neg (by omega), if_neg (by rw [h3]; decide), if_neg]
  rw [Bool.not_eq_true, List.any_eq_false]
  intro j hj
  rw [h4 j (by simpa using hj)]
  decide
theorem validC_bad {id k a b c d n m : Int} (h1 : 1 ≤ id) (h2 : id ≤ 1099511627776) (h3 : isK k = true) {j : Nat} (hj : j < 6) (h4 : fieldBad k j (fieldAt a b c d n m j) = true) : validC id k a b c d n m = 1 := by
  unfold validC
  rw [if_neg (by omega), if_neg (by rw [h3]; decide), if_pos]
  rw [List.any_eq_true]
  exact ⟨j, by simpa using hj, h4⟩
theorem usesB_size (k : Nat) : (usesB k).size < 4294967281 := by
  unfold usesB
  split <;> decide
theorem upto_succ {P : Nat → Prop} {j : Nat} (h : ∀ t, t < j → P t) (hj : P j) : ∀ t, t < j + 1 → P t := fun t ht => by
  rcases Nat.lt_succ_iff_lt_or_eq.1 ht with h1 | rfl
  · exact h t h1
  · exact hj

set_option maxHeartbeats 16000000 in
set_option maxRecDepth 100000 in
theorem valid_calls {B : Nat} {p : Nat → Addr} {w : World} (hE : Errs (List.range 21) B p w) (hT : OpW B w) (id k a b c d n m : Int) :
    Calls Tryz.prog 8 #[opV id k a b c d n m] w fun e w' => e = .returned (valV p (validC id k a b c d n m)) ∧ Below w.heap.size w w' := by
  have HE := Lib.hid hE; clear hE
  have HT := Lib.hid hT; clear hT
  obtain ⟨v, hv⟩ : ∃ v, v = valV p (validC id k a b c d n m) := ⟨_, rfl⟩
  rw [← hv]
  have HV := Lib.hid hv
  clear hv
  have HW0 : Hid (Below w.heap.size w (w.alloc (Obj.cells #[.int .i64 id, .int .i64 k, .int .i64 a, .int .i64 b, .int .i64 c, .int .i64 d, .int .i64 n, .int .i64 m] 23))) := (Below.refl _ _).alloc (Nat.le_refl _) _
  by_cases h1 : id < 1
  · have hd : decide (id < 1) = true := decide_eq_true h1
    have hv : v = ev p 2 := by rw [HV.out]; unfold validC; rw [if_pos (by omega)]; rfl
    subst hv
    clear HV
    have hg : w.cell? ⟨0, 0, none⟩ = some (ev p 2) := HE.out.cell 2 (by decide)
    have hgl : 0 < w.heap.size := Nat.lt_of_lt_of_le (HE.out.lt 2 (by decide)).1 HE.out.size
    go_enter Tryz.func8, Tryz.ntmps8
    go_wp2_with fail
    go_ret
    exact ⟨rfl, HW0.out⟩
  by_cases h2 : 1099511627776 < id
  · have hd : decide (1099511627776 < id) = true := decide_eq_true h2
    have hd1 : decide (id < 1) = false := decide_eq_false h1
    have hv : v = ev p 2 := by rw [HV.out]; unfold validC; rw [if_pos (by omega)]; rfl
    subst hv
    clear HV
    have hg : w.cell? ⟨0, 0, none⟩ = some (ev p 2) := HE.out.cell 2 (by decide)
    have hgl : 0 < w.heap.size := Nat.lt_of_lt_of_le (HE.out.lt 2 (by decide)).1 HE.out.size
    go_enter Tryz.func8, Tryz.ntmps8
    go_wp2_with fail
    go_ret
    exact ⟨rfl, HW0.out⟩
  have hd1 : decide (id < 1) = false := decide_eq_false h1
  have hd2 : decide (1099511627776 < id) = false := decide_eq_false h2
  cases h3 : isK k with
  | false =>
    have hv : v = ev p 10 := by rw [HV.out]; unfold validC; rw [if_neg (by omega), if_pos h3]; rfl
    subst hv
    clear HV
    have hg : w.cell? ⟨1, 0, none⟩ = some (ev p 10) := HE.out.cell 10 (by decide)
    have hgl : 1 < w.heap.size := Nat.lt_of_lt_of_le (HE.out.lt 10 (by decide)).1 HE.out.size
    go_enter Tryz.func8, Tryz.ntmps8
    go_wp2_with fail
    refine (isOp_calls _ _).mono ?_
    rintro e w1 ⟨rfl, rfl⟩
    rw [h3]
    go_wp2_with fail
    go_ret
    exact ⟨rfl, HW0.out⟩
  | true =>
    have hk : 1 ≤ k ∧ k ≤ 16 := by simpa [isK] using h3
    have HK := Lib.hid hk
    have HI := Lib.hid (And.intro (show 1 ≤ id by omega) (show id ≤ 1099511627776 by omega))
    clear hk
    have hVok : Hid ((∀ j, j < 6 → fieldBad k j (fieldAt a b c d n m j) = false) → v = .nilIface) := fun h => by rw [HV.out, validC_ok HI.out.1 HI.out.2 h3 h]; rfl
    have hVbad : Hid (∀ j, j < 6 → fieldBad k j (fieldAt a b c d n m j) = true → v = ev p 2) := fun j hj h => by rw [HV.out, validC_bad HI.out.1 HI.out.2 h3 hj h]; rfl
    have H3 := Lib.hid h3
    clear HV
    go_enter Tryz.func8, Tryz.ntmps8
    go_wp2_with fail
    refine (isOp_calls _ _).mono ?_
    rintro e w1 ⟨rfl, rfl⟩
    rw [h3]
    clear h3
    go_wp2_with fail
    obtain ⟨W1, hW1⟩ : ∃ W1, W1 = w.alloc (Obj.cells #[.int .i64 id, .int .i64 k, .int .i64 a, .int .i64 b, .int .i64 c, .int .i64 d, .int .i64 n, .int .i64 m] 23) := ⟨_, rfl⟩
    have hkc : W1.cell? ⟨w.heap.size, 1, none⟩ = some (.int .i64 k) := by rw [hW1]; go_simp
    have hsz : w.heap.size < W1.heap.size := by rw [hW1]; simp
    have HB0 : Below w.heap.size w W1 := by rw [hW1]; exact HW0.out
    rw [← hW1]
    clear hW1 HW0
    refine (fields_calls _ _ _ _ _ _ _ _ _).mono ?_
    rintro e w2 ⟨g, rfl, hg1, hg2, hb2, hcell⟩
    have hkc := (hb2.cell (p := ⟨w.heap.size, 1, none⟩) hsz).trans hkc
    have hsz2 : w.heap.size < w2.heap.size := by have := hb2.size; omega
    have HB := Lib.hid (bbase HB0 hb2)
    clear hb2 HB0 hsz hg1
    have HC := Lib.hid hcell
    clear hcell
    go_wp2_with fail
    go_loopw [25] (fun i wr => ∃ (j : Nat) (z : Int), z = j ∧ j ≤ 6 ∧ i = .int .i64 z ∧ (∀ t, t < j → fieldBad k t (fieldAt a b c d n m t) = false) ∧ Hid (Below w2.heap.size w2 wr)) (fun i _ => 6 - (intOf i).toNat)
    case atStart => exact ⟨0, 0, rfl, by omega, rfl, fun t ht => absurd ht (Nat.not_lt_zero _), Below.refl _ _⟩
    case round =>
      obtain ⟨j, z, hz, hj, rfl, hok, hN⟩ := hrel
      have HOK := Lib.hid hok
      clear hok
      by_cases hj6 : j < 6
      · have hx := (hN.out.cell (p := ⟨g, j, none⟩) hg2).trans (HC.out j hj6)
        have hkc := (hN.out.cell (p := ⟨w.heap.size, 1, none⟩) hsz2).trans hkc
        have HEr := Lib.hid (HE.out.below ((bbase HB.out hN.out).mono HE.out.size))
        have HTr := Lib.hid (HT.out.on (bbase HB.out hN.out))
        have HBr := Lib.hid (bbase HB.out hN.out)
        have herr : ∀ q, (wr.drewN q).cell? ⟨0, 0, none⟩ = some (ev p 2) := fun _ => HEr.out.cell 2 (by decide)
        have hszr : w.heap.size < wr.heap.size := by have := hN.out.size; omega
        have hfb := Lib.hid (hVbad.out j hj6)
        have HNx : Hid (fieldBad k j (fieldAt a b c d n m j) = false → ∀ t, t < j + 1 → fieldBad k t (fieldAt a b c d n m t) = false) := fun h => upto_succ HOK.out h
        clear HC hVok hVbad
        have hjc : j = 0 ∨ j = 1 ∨ j = 2 ∨ j = 3 ∨ j = 4 ∨ j = 5 := by omega
        rcases hjc with rfl | rfl | rfl | rfl | rfl | rfl
        · obtain rfl : z = 0 := hz
          obtain ⟨x, hxe⟩ : ∃ x, x = fieldAt a b c d n m 0 := ⟨_, rfl⟩
          have hfb : Hid (fieldBad k 0 x = true → v = ev p 2) := by rw [hxe]; exact hfb
          have HNx : Hid (fieldBad k 0 x = false → ∀ t, t < 0 + 1 → fieldBad k t (fieldAt a b c d n m t) = false) := by rw [hxe]; exact HNx
          rw [← hxe] at hx
          clear hxe
          by_cases c1 : x < 0
          · have hd3 : decide (x < 0) = true := decide_eq_true c1
            have hv := hfb.out (by simp [fieldBad, c1])
            subst hv
            clear hfb HNx
            go_wp2_with fail
            go_quiet (fail)
            go_wp2_with fail
            go_ret
            exact ⟨rfl, below_many HBr.out _⟩
          have hd3 : decide (x < 0) = false := decide_eq_false c1
          by_cases c2 : 1048576 < x
          · have hd4 : decide (1048576 < x) = true := decide_eq_true c2
            have hv := hfb.out (by simp [fieldBad, mostI, c2])
            subst hv
            clear hfb HNx
            go_wp2_with fail
            go_quiet (fail)
            go_wp2_with fail
            go_ret
            exact ⟨rfl, below_many HBr.out _⟩
          have hd4 : decide (1048576 < x) = false := decide_eq_false c2
          by_cases c3 : x = 0
          · have hok := HNx.out (by simp [fieldBad, mostI, c3])
            have HOK2 := Lib.hid hok
            subst c3
            clear hfb HNx hok
            go_wp2_with fail
            go_quiet (fail)
            go_wp2_with fail
            go_roundw
            case rel => exact ⟨0 + 1, 1, rfl, by omega, by go_num, HOK2.out, Lib.hid (below_many hN.out _)⟩
            case measure => simp [intOf]
          have hd5 : (x != 0) = true := by simpa using c3
          have HU := Lib.hid (fun (w' : World) (h : OpW B w') => uses_calls h HK.out.1 HK.out.2)
          have HCt := Lib.hid (fun (w' : World) (h : OpW B w') => contains_calls h (usesB k.toNat) ⟨#[65]⟩ (usesB_size k.toNat))
          have hq : Lib.contains (usesB k.toNat).data.toList [65] = usesHas k 0 := rfl
          rw [show ((⟨#[65]⟩ : ByteArray).data.toList) = [65] from rfl, hq] at HCt
          have hbad : fieldBad k 0 x = !usesHas k 0 := by simp [fieldBad, mostI, c1, c2, c3]
          rw [hbad] at hfb HNx
          clear hq hbad
          generalize usesHas k 0 = q at HCt hfb HNx
          generalize usesB k.toNat = u at HU HCt
          have hwr : IntKind.i64.wrap 1 = 1 := by rfl
          have hbd : Below wr.heap.size wr wr.drew := (Below.refl _ _).drew
          have hkc : wr.drew.cell? ⟨w.heap.size, 1, none⟩ = some (.int .i64 k) := hkc
          have HTr := Lib.hid (HTr.out.on hbd)
          have HEr := Lib.hid (HEr.out.below (hbd.mono HEr.out.size))
          have hN := Lib.hid (bbase hN.out hbd)
          have HBr := Lib.hid (bbase HBr.out hbd)
          have hszr : w.heap.size < wr.drew.heap.size := hszr
          clear hbd herr
          go_wp2_with fail
          go_region_held3 (fun wq => wq.cell? ⟨w.heap.size, 1, none⟩ = some (.int .i64 k))
            (exact hkc)
            (first
              | (go_at_call 29; go_loud (refine (HU.out _ HTr.out).mono ?_); go_loud (rintro e w5 ⟨rfl, hb⟩; have hs5 := hb.size; have hkc := (hb.cell (p := ⟨w.heap.size, 1, none⟩) hszr).trans hkc; have HTr := Lib.hid (HTr.out.on hb); have HEr := Lib.hid (HEr.out.below (hb.mono HEr.out.size)); have hN := Lib.hid (bbase hN.out hb); have HBr := Lib.hid (bbase HBr.out hb); have herr : w5.cell? ⟨0, 0, none⟩ = some (ev p 2) := HEr.out.cell 2 (by decide)))
              | (go_at_call 28; go_loud (refine (HCt.out _ HTr.out).mono ?_); go_loud (rintro e w6 ⟨rfl, rfl⟩)))
          cases q with
          | false =>
            have hv := hfb.out rfl
            subst hv
            clear hfb HNx
            go_wp2_with fail
            go_ret
            exact ⟨rfl, HBr.out⟩
          | true =>
            have HOK2 := Lib.hid (HNx.out rfl)
            clear hfb HNx
            go_wp2_with fail
            go_roundw
            case rel => exact ⟨0 + 1, 1, rfl, by omega, by go_num, HOK2.out, hN⟩
            case measure => simp [intOf]
        · obtain rfl : z = 1 := hz
          obtain ⟨x, hxe⟩ : ∃ x, x = fieldAt a b c d n m 1 := ⟨_, rfl⟩
          have hfb : Hid (fieldBad k 1 x = true → v = ev p 2) := by rw [hxe]; exact hfb
          have HNx : Hid (fieldBad k 1 x = false → ∀ t, t < 1 + 1 → fieldBad k t (fieldAt a b c d n m t) = false) := by rw [hxe]; exact HNx
          rw [← hxe] at hx
          clear hxe
          by_cases c1 : x < 0
          · have hd3 : decide (x < 0) = true := decide_eq_true c1
            have hv := hfb.out (by simp [fieldBad, c1])
            subst hv
            clear hfb HNx
            go_wp2_with fail
            go_quiet (fail)
            go_wp2_with fail
            go_ret
            exact ⟨rfl, below_many HBr.out _⟩
          have hd3 : decide (x < 0) = false := decide_eq_false c1
          by_cases c2 : 1048576 < x
          · have hd4 : decide (1048576 < x) = true := decide_eq_true c2
            have hv := hfb.out (by simp [fieldBad, mostI, c2])
            subst hv
            clear hfb HNx
            go_wp2_with fail
            go_quiet (fail)
            go_wp2_with fail
            go_ret
            exact ⟨rfl, below_many HBr.out _⟩
          have hd4 : decide (1048576 < x) = false := decide_eq_false c2
          by_cases c3 : x = 0
          · have hok := HNx.out (by simp [fieldBad, mostI, c3])
            have HOK2 := Lib.hid hok
            subst c3
            clear hfb HNx hok
            go_wp2_with fail
            go_quiet (fail)
            go_wp2_with fail
            go_roundw
            case rel => exact ⟨1 + 1, 2, rfl, by omega, by go_num, HOK2.out, Lib.hid (below_many hN.out _)⟩
            case measure => simp [intOf]
          have hd5 : (x != 0) = true := by simpa using c3
          have HU := Lib.hid (fun (w' : World) (h : OpW B w') => uses_calls h HK.out.1 HK.out.2)
          have HCt := Lib.hid (fun (w' : World) (h : OpW B w') => contains_calls h (usesB k.toNat) ⟨#[66]⟩ (usesB_size k.toNat))
          have hq : Lib.contains (usesB k.toNat).data.toList [66] = usesHas k 1 := rfl
          rw [show ((⟨#[66]⟩ : ByteArray).data.toList) = [66] from rfl, hq] at HCt
          have hbad : fieldBad k 1 x = !usesHas k 1 := by simp [fieldBad, mostI, c1, c2, c3]
          rw [hbad] at hfb HNx
          clear hq hbad
          generalize usesHas k 1 = q at HCt hfb HNx
          generalize usesB k.toNat = u at HU HCt
          have hwr : IntKind.i64.wrap 2 = 2 := by rfl
          have hbd : Below wr.heap.size wr wr.drew := (Below.refl _ _).drew
          have hkc : wr.drew.cell? ⟨w.heap.size, 1, none⟩ = some (.int .i64 k) := hkc
          have HTr := Lib.hid (HTr.out.on hbd)
          have HEr := Lib.hid (HEr.out.below (hbd.mono HEr.out.size))
          have hN := Lib.hid (bbase hN.out hbd)
          have HBr := Lib.hid (bbase HBr.out hbd)
          have hszr : w.heap.size < wr.drew.heap.size := hszr
          clear hbd herr
          go_wp2_with fail
          go_region_held3 (fun wq => wq.cell? ⟨w.heap.size, 1, none⟩ = some (.int .i64 k))
            (exact hkc)
            (first
              | (go_at_call 29; go_loud (refine (HU.out _ HTr.out).mono ?_); go_loud (rintro e w5 ⟨rfl, hb⟩; have hs5 := hb.size; have hkc := (hb.cell (p := ⟨w.heap.size, 1, none⟩) hszr).trans hkc; have HTr := Lib.hid (HTr.out.on hb); have HEr := Lib.hid (HEr.out.below (hb.mono HEr.out.size)); have hN := Lib.hid (bbase hN.out hb); have HBr := Lib.hid (bbase HBr.out hb); have herr : w5.cell? ⟨0, 0, none⟩ = some (ev p 2) := HEr.out.cell 2 (by decide)))
              | (go_at_call 28; go_loud (refine (HCt.out _ HTr.out).mono ?_); go_loud (rintro e w6 ⟨rfl, rfl⟩)))
          cases q with
          | false =>
            have hv := hfb.out rfl
            subst hv
            clear hfb HNx
            go_wp2_with fail
            go_ret
            exact ⟨rfl, HBr.out⟩
          | true =>
            have HOK2 := Lib.hid (HNx.out rfl)
            clear hfb HNx
            go_wp2_with fail
            go_roundw
            case rel => exact ⟨1 + 1, 2, rfl, by omega, by go_num, HOK2.out, hN⟩
            case measure => simp [intOf]
        · obtain rfl : z = 2 := hz
          obtain ⟨x, hxe⟩ : ∃ x, x = fieldAt a b c d n m 2 := ⟨_, rfl⟩
          have hfb : Hid (fieldBad k 2 x = true → v = ev p 2) := by rw [hxe]; exact hfb
          have HNx : Hid (fieldBad k 2 x = false → ∀ t, t < 2 + 1 → fieldBad k t (fieldAt a b c d n m t) = false) := by rw [hxe]; exact HNx
          rw [← hxe] at hx
          clear hxe
          by_cases c1 : x < 0
          · have hd3 : decide (x < 0) = true := decide_eq_true c1
            have hv := hfb.out (by simp [fieldBad, c1])
            subst hv
            clear hfb HNx
            go_wp2_with fail
            go_quiet (fail)
            go_wp2_with fail
            go_ret
            exact ⟨rfl, below_many HBr.out _⟩
          have hd3 : decide (x < 0) = false := decide_eq_false c1
          by_cases c2 : 1048576 < x
          · have hd4 : decide (1048576 < x) = true := decide_eq_true c2
            have hv := hfb.out (by simp [fieldBad, mostI, c2])
            subst hv
            clear hfb HNx
            go_wp2_with fail
            go_quiet (fail)
            go_wp2_with fail
            go_ret
            exact ⟨rfl, below_many HBr.out _⟩
          have hd4 : decide (1048576 < x) = false := decide_eq_false c2
          by_cases c3 : x = 0
          · have hok := HNx.out (by simp [fieldBad, mostI, c3])
            have HOK2 := Lib.hid hok
            subst c3
            clear hfb HNx hok
            go_wp2_with fail
            go_quiet (fail)
            go_wp2_with fail
            go_roundw
            case rel => exact ⟨2 + 1, 3, rfl, by omega, by go_num, HOK2.out, Lib.hid (below_many hN.out _)⟩
            case measure => simp [intOf]
          have hd5 : (x != 0) = true := by simpa using c3
          have HU := Lib.hid (fun (w' : World) (h : OpW B w') => uses_calls h HK.out.1 HK.out.2)
          have HCt := Lib.hid (fun (w' : World) (h : OpW B w') => contains_calls h (usesB k.toNat) ⟨#[67]⟩ (usesB_size k.toNat))
          have hq : Lib.contains (usesB k.toNat).data.toList [67] = usesHas k 2 := rfl
          rw [show ((⟨#[67]⟩ : ByteArray).data.toList) = [67] from rfl, hq] at HCt
          have hbad : fieldBad k 2 x = !usesHas k 2 := by simp [fieldBad, mostI, c1, c2, c3]
          rw [hbad] at hfb HNx
          clear hq hbad
          generalize usesHas k 2 = q at HCt hfb HNx
          generalize usesB k.toNat = u at HU HCt
          have hwr : IntKind.i64.wrap 3 = 3 := by rfl
          have hbd : Below wr.heap.size wr wr.drew := (Below.refl _ _).drew
          have hkc : wr.drew.cell? ⟨w.heap.size, 1, none⟩ = some (.int .i64 k) := hkc
          have HTr := Lib.hid (HTr.out.on hbd)
          have HEr := Lib.hid (HEr.out.below (hbd.mono HEr.out.size))
          have hN := Lib.hid (bbase hN.out hbd)
          have HBr := Lib.hid (bbase HBr.out hbd)
          have hszr : w.heap.size < wr.drew.heap.size := hszr
          clear hbd herr
          go_wp2_with fail
          go_region_held3 (fun wq => wq.cell? ⟨w.heap.size, 1, none⟩ = some (.int .i64 k))
            (exact hkc)
            (first
              | (go_at_call 29; go_loud (refine (HU.out _ HTr.out).mono ?_); go_loud (rintro e w5 ⟨rfl, hb⟩; have hs5 := hb.size; have hkc := (hb.cell (p := ⟨w.heap.size, 1, none⟩) hszr).trans hkc; have HTr := Lib.hid (HTr.out.on hb); have HEr := Lib.hid (HEr.out.below (hb.mono HEr.out.size)); have hN := Lib.hid (bbase hN.out hb); have HBr := Lib.hid (bbase HBr.out hb); have herr : w5.cell? ⟨0, 0, none⟩ = some (ev p 2) := HEr.out.cell 2 (by decide)))
              | (go_at_call 28; go_loud (refine (HCt.out _ HTr.out).mono ?_); go_loud (rintro e w6 ⟨rfl, rfl⟩)))
          cases q with
          | false =>
            have hv := hfb.out rfl
            subst hv
            clear hfb HNx
            go_wp2_with fail
            go_ret
            exact ⟨rfl, HBr.out⟩
          | true =>
            have HOK2 := Lib.hid (HNx.out rfl)
            clear hfb HNx
            go_wp2_with fail
            go_roundw
            case rel => exact ⟨2 + 1, 3, rfl, by omega, by go_num, HOK2.out, hN⟩
            case measure => simp [intOf]
        · obtain rfl : z = 3 := hz
          obtain ⟨x, hxe⟩ : ∃ x, x = fieldAt a b c d n m 3 := ⟨_, rfl⟩
          have hfb : Hid (fieldBad k 3 x = true → v = ev p 2) := by rw [hxe]; exact hfb
          have HNx : Hid (fieldBad k 3 x = false → ∀ t, t < 3 + 1 → fieldBad k t (fieldAt a b c d n m t) = false) := by rw [hxe]; exact HNx
          rw [← hxe] at hx
          clear hxe
          by_cases c1 : x < 0
          · have hd3 : decide (x < 0) = true := decide_eq_true c1
            have hv := hfb.out (by simp [fieldBad, c1])
            subst hv
            clear hfb HNx
            go_wp2_with fail
            go_quiet (fail)
            go_wp2_with fail
            go_ret
            exact ⟨rfl, below_many HBr.out _⟩
          have hd3 : decide (x < 0) = false := decide_eq_false c1
          by_cases c2 : 1048576 < x
          · have hd4 : decide (1048576 < x) = true := decide_eq_true c2
            have hv := hfb.out (by simp [fieldBad, mostI, c2])
            subst hv
            clear hfb HNx
            go_wp2_with fail
            go_quiet (fail)
            go_wp2_with fail
            go_ret
            exact ⟨rfl, below_many HBr.out _⟩
          have hd4 : decide (1048576 < x) = false := decide_eq_false c2
          by_cases c3 : x = 0
          · have hok := HNx.out (by simp [fieldBad, mostI, c3])
            have HOK2 := Lib.hid hok
            subst c3
            clear hfb HNx hok
            go_wp2_with fail
            go_quiet (fail)
            go_wp2_with fail
            go_roundw
            case rel => exact ⟨3 + 1, 4, rfl, by omega, by go_num, HOK2.out, Lib.hid (below_many hN.out _)⟩
            case measure => simp [intOf]
          have hd5 : (x != 0) = true := by simpa using c3
          have HU := Lib.hid (fun (w' : World) (h : OpW B w') => uses_calls h HK.out.1 HK.out.2)
          have HCt := Lib.hid (fun (w' : World) (h : OpW B w') => contains_calls h (usesB k.toNat) ⟨#[68]⟩ (usesB_size k.toNat))
          have hq : Lib.contains (usesB k.toNat).data.toList [68] = usesHas k 3 := rfl
          rw [show ((⟨#[68]⟩ : ByteArray).data.toList) = [68] from rfl, hq] at HCt
          have hbad : fieldBad k 3 x = !usesHas k 3 := by simp [fieldBad, mostI, c1, c2, c3]
          rw [hbad] at hfb HNx
          clear hq hbad
          generalize usesHas k 3 = q at HCt hfb HNx
          generalize usesB k.toNat = u at HU HCt
          have hwr : IntKind.i64.wrap 4 = 4 := by rfl
          have hbd : Below wr.heap.size wr wr.drew := (Below.refl _ _).drew
          have hkc : wr.drew.cell? ⟨w.heap.size, 1, none⟩ = some (.int .i64 k) := hkc
          have HTr := Lib.hid (HTr.out.on hbd)
          have HEr := Lib.hid (HEr.out.below (hbd.mono HEr.out.size))
          have hN := Lib.hid (bbase hN.out hbd)
          have HBr := Lib.hid (bbase HBr.out hbd)
          have hszr : w.heap.size < wr.drew.heap.size := hszr
          clear hbd herr
          go_wp2_with fail
          go_region_held3 (fun wq => wq.cell? ⟨w.heap.size, 1, none⟩ = some (.int .i64 k))
            (exact hkc)
            (first
              | (go_at_call 29; go_loud (refine (HU.out _ HTr.out).mono ?_); go_loud (rintro e w5 ⟨rfl, hb⟩; have hs5 := hb.size; have hkc := (hb.cell (p := ⟨w.heap.size, 1, none⟩) hszr).trans hkc; have HTr := Lib.hid (HTr.out.on hb); have HEr := Lib.hid (HEr.out.below (hb.mono HEr.out.size)); have hN := Lib.hid (bbase hN.out hb); have HBr := Lib.hid (bbase HBr.out hb); have herr : w5.cell? ⟨0, 0, none⟩ = some (ev p 2) := HEr.out.cell 2 (by decide)))
              | (go_at_call 28; go_loud (refine (HCt.out _ HTr.out).mono ?_); go_loud (rintro e w6 ⟨rfl, rfl⟩)))
          cases q with
          | false =>
            have hv := hfb.out rfl
            subst hv
            clear hfb HNx
            go_wp2_with fail
            go_ret
            exact ⟨rfl, HBr.out⟩
          | true =>
            have HOK2 := Lib.hid (HNx.out rfl)
            clear hfb HNx
            go_wp2_with fail
            go_roundw
            case rel => exact ⟨3 + 1, 4, rfl, by omega, by go_num, HOK2.out, hN⟩
            case measure => simp [intOf]
        · obtain rfl : z = 4 := hz
          obtain ⟨x, hxe⟩ : ∃ x, x = fieldAt a b c d n m 4 := ⟨_, rfl⟩
          have hfb : Hid (fieldBad k 4 x = true → v = ev p 2) := by rw [hxe]; exact hfb
          have HNx : Hid (fieldBad k 4 x = false → ∀ t, t < 4 + 1 → fieldBad k t (fieldAt a b c d n m t) = false) := by rw [hxe]; exact HNx
          rw [← hxe] at hx
          clear hxe
          by_cases c1 : x < 0
          · have hd3 : decide (x < 0) = true := decide_eq_true c1
            have hv := hfb.out (by simp [fieldBad, c1])
            subst hv
            clear hfb HNx
            go_wp2_with fail
            go_quiet (fail)
            go_wp2_with fail
            go_ret
            exact ⟨rfl, below_many HBr.out _⟩
          have hd3 : decide (x < 0) = false := decide_eq_false c1
          by_cases c2 : 1000000000000000 < x
          · have hd4 : decide (1000000000000000 < x) = true := decide_eq_true c2
            have hv := hfb.out (by simp [fieldBad, mostI, c2])
            subst hv
            clear hfb HNx
            go_wp2_with fail
            go_quiet (fail)
            go_wp2_with fail
            go_ret
            exact ⟨rfl, below_many HBr.out _⟩
          have hd4 : decide (1000000000000000 < x) = false := decide_eq_false c2
          by_cases c3 : x = 0
          · have hok := HNx.out (by simp [fieldBad, mostI, c3])
            have HOK2 := Lib.hid hok
            subst c3
            clear hfb HNx hok
            go_wp2_with fail
            go_quiet (fail)
            go_wp2_with fail
            go_roundw
            case rel => exact ⟨4 + 1, 5, rfl, by omega, by go_num, HOK2.out, Lib.hid (below_many hN.out _)⟩
            case measure => simp [intOf]
          have hd5 : (x != 0) = true := by simpa using c3
          have HU := Lib.hid (fun (w' : World) (h : OpW B w') => uses_calls h HK.out.1 HK.out.2)
          have HCt := Lib.hid (fun (w' : World) (h : OpW B w') => contains_calls h (usesB k.toNat) ⟨#[78]⟩ (usesB_size k.toNat))
          have hq : Lib.contains (usesB k.toNat).data.toList [78] = usesHas k 4 := rfl
          rw [show ((⟨#[78]⟩ : ByteArray).data.toList) = [78] from rfl, hq] at HCt
          have hbad : fieldBad k 4 x = !usesHas k 4 := by simp [fieldBad, mostI, c1, c2, c3]
          rw [hbad] at hfb HNx
          clear hq hbad
          generalize usesHas k 4 = q at HCt hfb HNx
          generalize usesB k.toNat = u at HU HCt
          have hwr : IntKind.i64.wrap 5 = 5 := by rfl
          have hbd : Below wr.heap.size wr wr.drew := (Below.refl _ _).drew
          have hkc : wr.drew.cell? ⟨w.heap.size, 1, none⟩ = some (.int .i64 k) := hkc
          have HTr := Lib.hid (HTr.out.on hbd)
          have HEr := Lib.hid (HEr.out.below (hbd.mono HEr.out.size))
          have hN := Lib.hid (bbase hN.out hbd)
          have HBr := Lib.hid (bbase HBr.out hbd)
          have hszr : w.heap.size < wr.drew.heap.size := hszr
          clear hbd herr
          go_wp2_with fail
          go_region_held3 (fun wq => wq.cell? ⟨w.heap.size, 1, none⟩ = some (.int .i64 k))
            (exact hkc)
            (first
              | (go_at_call 29; go_loud (refine (HU.out _ HTr.out).mono ?_); go_loud (rintro e w5 ⟨rfl, hb⟩; have hs5 := hb.size; have hkc := (hb.cell (p := ⟨w.heap.size, 1, none⟩) hszr).trans hkc; have HTr := Lib.hid (HTr.out.on hb); have HEr := Lib.hid (HEr.out.below (hb.mono HEr.out.size)); have hN := Lib.hid (bbase hN.out hb); have HBr := Lib.hid (bbase HBr.out hb); have herr : w5.cell? ⟨0, 0, none⟩ = some (ev p 2) := HEr.out.cell 2 (by decide)))
              | (go_at_call 28; go_loud (refine (HCt.out _ HTr.out).mono ?_); go_loud (rintro e w6 ⟨rfl, rfl⟩)))
          cases q with
          | false =>
            have hv := hfb.out rfl
            subst hv
            clear hfb HNx
            go_wp2_with fail
            go_ret
            exact ⟨rfl, HBr.out⟩
          | true =>
            have HOK2 := Lib.hid (HNx.out rfl)
            clear hfb HNx
            go_wp2_with fail
            go_roundw
            case rel => exact ⟨4 + 1, 5, rfl, by omega, by go_num, HOK2.out, hN⟩
            case measure => simp [intOf]
        · obtain rfl : z = 5 := hz
          obtain ⟨x, hxe⟩ : ∃ x, x = fieldAt a b c d n m 5 := ⟨_, rfl⟩
          have hfb : Hid (fieldBad k 5 x = true → v = ev p 2) := by rw [hxe]; exact hfb
          have HNx : Hid (fieldBad k 5 x = false → ∀ t, t < 5 + 1 → fieldBad k t (fieldAt a b c d n m t) = false) := by rw [hxe]; exact HNx
          rw [← hxe] at hx
          clear hxe
          by_cases c1 : x < 0
          · have hd3 : decide (x < 0) = true := decide_eq_true c1
            have hv := hfb.out (by simp [fieldBad, c1])
            subst hv
            clear hfb HNx
            go_wp2_with fail
            go_quiet (fail)
            go_wp2_with fail
            go_ret
            exact ⟨rfl, below_many HBr.out _⟩
          have hd3 : decide (x < 0) = false := decide_eq_false c1
          by_cases c2 : 1000000000000000 < x
          · have hd4 : decide (1000000000000000 < x) = true := decide_eq_true c2
            have hv := hfb.out (by simp [fieldBad, mostI, c2])
            subst hv
            clear hfb HNx
            go_wp2_with fail
            go_quiet (fail)
            go_wp2_with fail
            go_ret
            exact ⟨rfl, below_many HBr.out _⟩
          have hd4 : decide (1000000000000000 < x) = false := decide_eq_false c2
          by_cases c3 : x = 0
          · have hok := HNx.out (by simp [fieldBad, mostI, c3])
            have HOK2 := Lib.hid hok
            subst c3
            clear hfb HNx hok
            go_wp2_with fail
            go_quiet (fail)
            go_wp2_with fail
            go_roundw
            case rel => exact ⟨5 + 1, 6, rfl, by omega, by go_num, HOK2.out, Lib.hid (below_many hN.out _)⟩
            case measure => simp [intOf]
          have hd5 : (x != 0) = true := by simpa using c3
          have HU := Lib.hid (fun (w' : World) (h : OpW B w') => uses_calls h HK.out.1 HK.out.2)
          have HCt := Lib.hid (fun (w' : World) (h : OpW B w') => contains_calls h (usesB k.toNat) ⟨#[77]⟩ (usesB_size k.toNat))
          have hq : Lib.contains (usesB k.toNat).data.toList [77] = usesHas k 5 := rfl
          rw [show ((⟨#[77]⟩ : ByteArray).data.toList) = [77] from rfl, hq] at HCt
          have hbad : fieldBad k 5 x = !usesHas k 5 := by simp [fieldBad, mostI, c1, c2, c3]
          rw [hbad] at hfb HNx
          clear hq hbad
          generalize usesHas k 5 = q at HCt hfb HNx
          generalize usesB k.toNat = u at HU HCt
          have hwr : IntKind.i64.wrap 6 = 6 := by rfl
          have hbd : Below wr.heap.size wr wr.drew := (Below.refl _ _).drew
          have hkc : wr.drew.cell? ⟨w.heap.size, 1, none⟩ = some (.int .i64 k) := hkc
          have HTr := Lib.hid (HTr.out.on hbd)
          have HEr := Lib.hid (HEr.out.below (hbd.mono HEr.out.size))
          have hN := Lib.hid (bbase hN.out hbd)
          have HBr := Lib.hid (bbase HBr.out hbd)
          have hszr : w.heap.size < wr.drew.heap.size := hszr
          clear hbd herr
          go_wp2_with fail
          go_region_held3 (fun wq => wq.cell? ⟨w.heap.size, 1, none⟩ = some (.int .i64 k))
            (exact hkc)
            (first
              | (go_at_call 29; go_loud (refine (HU.out _ HTr.out).mono ?_); go_loud (rintro e w5 ⟨rfl, hb⟩; have hs5 := hb.size; have hkc := (hb.cell (p := ⟨w.heap.size, 1, none⟩) hszr).trans hkc; have HTr := Lib.hid (HTr.out.on hb); have HEr := Lib.hid (HEr.out.below (hb.mono HEr.out.size)); have hN := Lib.hid (bbase hN.out hb); have HBr := Lib.hid (bbase HBr.out hb); have herr : w5.cell? ⟨0, 0, none⟩ = some (ev p 2) := HEr.out.cell 2 (by decide)))
              | (go_at_call 28; go_loud (refine (HCt.out _ HTr.out).mono ?_); go_loud (rintro e w6 ⟨rfl, rfl⟩)))
          cases q with
          | false =>
            have hv := hfb.out rfl
            subst hv
            clear hfb HNx
            go_wp2_with fail
            go_ret
            exact ⟨rfl, HBr.out⟩
          | true =>
            have HOK2 := Lib.hid (HNx.out rfl)
            clear hfb HNx
            go_wp2_with fail
            go_roundw
            case rel => exact ⟨5 + 1, 6, rfl, by omega, by go_num, HOK2.out, hN⟩
            case measure => simp [intOf]
      · obtain rfl : j = 6 := by omega
        obtain rfl : z = 6 := hz
        have hv := hVok.out HOK.out
        subst hv
        have hbw := bbase HB.out hN.out
        go_wp2_with fail
        go_ret
        exact ⟨rfl, hbw⟩
end Go.Proofs.YtchbkceconlbkaaGreatDoor
