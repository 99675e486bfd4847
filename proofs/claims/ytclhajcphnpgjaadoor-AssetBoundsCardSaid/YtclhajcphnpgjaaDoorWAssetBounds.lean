/- The walk of pledgelaw10.AssetBounds: it returns true, and writes nothing that was there. -/
import Derived.Test.YtclhajcphnpgjaaDoorMaster0
import Derived.Test.YtclhajcphnpgjaaDoorSee
namespace Go.Proofs.YtclhajcphnpgjaaDoor
open Go.Maps
open Go Go.RowKit
set_option linter.unusedSimpArgs false
set_option linter.unusedVariables false

theorem first10_calls (w : World) : Calls Tryd.prog 40 #[] w fun e w' => e = .returned (.bool true) ∧ Below w.heap.size w w' := by
  go_enter Tryd.func40, Tryd.ntmps40
  go_wp2_with fail
  refine (live_calls _ _ _ _ _ _ _).mono ?_
  rintro e w1 ⟨rfl, hb⟩
  rw [show liveB 0 5 = true from rfl]
  go_wp2_with fail
  go_ret
  exact ⟨rfl, hb⟩
theorem sameAsset_self (a1 a2 a3 a4 a5 : Int) (w : World) : Calls Tryd.prog 45 #[assetV a1 a2 a3 a4 a5, assetV a1 a2 a3 a4 a5] w fun e w' => e = .returned (.bool true) ∧ Below w.heap.size w w' := by
  go_enter Tryd.func45, Tryd.ntmps45
  go_wp2_with fail
  go_ret
  exact ⟨rfl, by (repeat (first | exact Below.refl _ _ | assumption | refine Below.drew ?_ | refine below_many ?_ _ | refine Below.alloc ?_ (by first | (simp; done) | (simp; omega) | omega) _ | refine Below.setCell ?_ (by first | (simp; done) | (simp; omega) | omega) _))⟩

set_option maxHeartbeats 4000000 in
set_option maxRecDepth 100000 in
theorem ab_f0 {p : Nat → Addr} {w : World} (hE : Errs (List.range 21) w.heap.size p w) (id iss cls mon en : Int) (l0 : -9223372036854775808 ≤ id) (u0 : id ≤ 9223372036854775807) (hv : validA id iss cls mon en = false) (k0 : decide (1 ≤ id) = false) :
    Calls Tryd.prog 11 #[.int .i64 id, .int .i64 iss, .int .i64 cls, .int .i64 mon, .int .i64 en] w fun e w' => e = .returned (.bool true) ∧ Below w.heap.size w w' := by
  have hwf : (Lit.int .i64 id).wf = true := i64wf l0 u0
  have HE := Lib.hid hE; clear hE
  go_enter Tryd.func11, Tryd.ntmps11
  go_wp2_with fail
  refine (first10_calls w).mono ?_
  rintro e w1 ⟨rfl, hb1⟩
  have hs1 := hb1.size
  go_wp2_with fail
  have hA : ((w1.alloc (Obj.cells #[.int .i64 id, .int .i64 iss, .int .i64 cls, .int .i64 mon, .int .i64 en] 89)).alloc (Obj.cells #[.map none] 92)).cell? ⟨w1.heap.size + 1, 0, none⟩ = some (.map none) := by go_simp
  have hF : ((w1.alloc (Obj.cells #[.int .i64 id, .int .i64 iss, .int .i64 cls, .int .i64 mon, .int .i64 en] 89)).alloc (Obj.cells #[.map none] 92)).frozen? ⟨w1.heap.size + 1, 0, none⟩ = false := by go_simp
  have hB2 : Below w.heap.size w ((w1.alloc (Obj.cells #[.int .i64 id, .int .i64 iss, .int .i64 cls, .int .i64 mon, .int .i64 en] 89)).alloc (Obj.cells #[.map none] 92)) := by (repeat (first | exact Below.refl _ _ | assumption | refine Below.drew ?_ | refine below_many ?_ _ | refine Below.alloc ?_ (by first | (simp; done) | (simp; omega) | omega) _ | refine Below.setCell ?_ (by first | (simp; done) | (simp; omega) | omega) _))
  have hq : ∀ i u, (w1.alloc (Obj.cells #[.int .i64 id, .int .i64 iss, .int .i64 cls, .int .i64 mon, .int .i64 en] 89)).cell? ⟨w1.heap.size, i, none⟩ = some u → ((w1.alloc (Obj.cells #[.int .i64 id, .int .i64 iss, .int .i64 cls, .int .i64 mon, .int .i64 en] 89)).alloc (Obj.cells #[.map none] 92)).cell? ⟨w1.heap.size, i, none⟩ = some u := fun i u hu => (((Below.refl (w1.alloc (Obj.cells #[.int .i64 id, .int .i64 iss, .int .i64 cls, .int .i64 mon, .int .i64 en] 89)).heap.size (w1.alloc (Obj.cells #[.int .i64 id, .int .i64 iss, .int .i64 cls, .int .i64 mon, .int .i64 en] 89))).alloc (Nat.le_refl _) _).cell (p := ⟨w1.heap.size, i, none⟩) (by simp)).trans hu
  have q0 := hq 0 (.int .i64 id) (by go_simp)
  have q1 := hq 1 (.int .i64 iss) (by go_simp)
  have q2 := hq 2 (.int .i64 cls) (by go_simp)
  have q3 := hq 3 (.int .i64 mon) (by go_simp)
  have q4 := hq 4 (.int .i64 en) (by go_simp)
  obtain ⟨W, hW⟩ : ∃ W, W = ((w1.alloc (Obj.cells #[.int .i64 id, .int .i64 iss, .int .i64 cls, .int .i64 mon, .int .i64 en] 89)).alloc (Obj.cells #[.map none] 92)) := ⟨_, rfl⟩
  rw [← hW] at hA hF hB2 q0 q1 q2 q3 q4
  have hWs : w1.heap.size + 1 < W.heap.size := by rw [hW]; simp
  rw [← hW]
  clear hW hq
  refine (masterAdd_bad (HE.out.below hB2) (by decide) _ (id, iss, cls, mon, en) hv).mono ?_
  rintro e w2 ⟨rfl, hb2⟩
  rw [show ev p 2 = Value.iface 227 (.pointer (some (p 2))) from rfl]
  have hc2 := (hb2.cell (p := ⟨w1.heap.size + 1, 0, none⟩) hWs).trans hA
  have hB3 := hB2.trans (hb2.mono hB2.size)
  have hr : ∀ i u, W.cell? ⟨w1.heap.size, i, none⟩ = some u → w2.cell? ⟨w1.heap.size, i, none⟩ = some u := fun i u hu => (hb2.cell (p := ⟨w1.heap.size, i, none⟩) (show w1.heap.size < _ by omega)).trans hu
  have r0 := hr _ _ q0
  have r1 := hr _ _ q1
  have r2 := hr _ _ q2
  have r3 := hr _ _ q3
  have r4 := hr _ _ q4
  have hWs2 : w1.heap.size + 1 < w2.heap.size := Nat.lt_of_lt_of_le hWs hb2.size
  have HV := Lib.hid (validV_bad (p := p) hv)
  clear hb2 hA hF hB2 hr q0 q1 q2 q3 q4 hv
  go_wp2_with fail
  refine (masterGet_calls hc2 (.inl ⟨rfl, rfl⟩) id hwf).mono ?_
  rintro e w3 ⟨rfl, hb3⟩
  rw [show (mget ([] : Assets) id).getD zeroA = zeroA from rfl, show (mget ([] : Assets) id).isSome = false from rfl]
  have hc3 := (hb3.cell (p := ⟨w1.heap.size + 1, 0, none⟩) hWs2).trans hc2
  have hB4 := hB3.trans (hb3.mono hB3.size)
  have hr : ∀ i u, w2.cell? ⟨w1.heap.size, i, none⟩ = some u → ∀ ob : Obj, (w3.alloc ob).cell? ⟨w1.heap.size, i, none⟩ = some u := fun i u hu ob => ((hb3.trans ((Below.refl _ _).alloc hb3.size ob)).cell (p := ⟨w1.heap.size, i, none⟩) (show w1.heap.size < _ by omega)).trans hu
  have s0 := hr _ _ r0
  have s1 := hr _ _ r1
  have s2 := hr _ _ r2
  have s3 := hr _ _ r3
  have s4 := hr _ _ r4
  have hs3 := hB4.size
  have hWs3 : w1.heap.size + 1 < w3.heap.size := Nat.lt_of_lt_of_le hWs2 hb3.size
  clear hb3 hc2 hB3 hr r0 r1 r2 r3 r4
  unfold zeroA astV
  go_wp2_with fail
  refine (valid_calls (HE.out.below (show Below w.heap.size w _ by (repeat (first | exact Below.refl _ _ | assumption | refine Below.drew ?_ | refine below_many ?_ _ | refine Below.alloc ?_ (by first | (simp; done) | (simp; omega) | omega) _ | refine Below.setCell ?_ (by first | (simp; done) | (simp; omega) | omega) _)))) (by decide) id iss cls mon en).mono ?_
  rintro e w4 ⟨rfl, hb4⟩
  rw [HV.out, show ev p 2 = Value.iface 227 (.pointer (some (p 2))) from rfl]
  have hb4' : Below w3.heap.size w3 w4 := Below.trans ((Below.refl _ _).alloc (Nat.le_refl _) _) (hb4.mono (by simp))
  have hc4 := (hb4'.cell (p := ⟨w1.heap.size + 1, 0, none⟩) hWs3).trans hc3
  have hB5 := hB4.trans (hb4'.mono hs3)
  have hWs4 : w1.heap.size + 1 < w4.heap.size := Nat.lt_of_lt_of_le hWs3 hb4'.size
  clear hb4 hb4' hc3 hB4 s0 s1 s2 s3 s4
  go_wp2_with fail
  refine (is_ev (HE.out.below hB5) (k := 2) (by decide) 103).mono ?_
  rintro e w5 ⟨rfl, hb5⟩
  rw [show ((101 + ((2 : Nat) : Int)) == 103) = true from rfl]
  have hc5 := (hb5.cell (p := ⟨w1.heap.size + 1, 0, none⟩) hWs4).trans hc4
  have hB6 := hB5.trans (hb5.mono hB5.size)
  clear hb5 hc4 hB5
  go_wp2_with fail
  refine (all_calls hc5 (.inl ⟨rfl, rfl⟩) (by simp) (by simp)).mono ?_
  rintro e w6 ⟨v, rfl, hO, hb6⟩
  obtain ⟨ad, cap, rfl⟩ := hO.len
  rw [allOf_len]
  have hB7 := hB6.trans (hb6.mono hB6.size)
  clear hb6 hO hB6
  go_wp2_with fail
  go_ret
  exact ⟨rfl, hB7⟩

set_option maxHeartbeats 4000000 in
set_option maxRecDepth 100000 in
theorem ab_f1 {p : Nat → Addr} {w : World} (hE : Errs (List.range 21) w.heap.size p w) (id iss cls mon en : Int) (l0 : -9223372036854775808 ≤ id) (u0 : id ≤ 9223372036854775807) (hv : validA id iss cls mon en = false) (k0 : decide (1 ≤ id) = true) (k1 : decide (id ≤ 32) = false) :
    Calls Tryd.prog 11 #[.int .i64 id, .int .i64 iss, .int .i64 cls, .int .i64 mon, .int .i64 en] w fun e w' => e = .returned (.bool true) ∧ Below w.heap.size w w' := by
  have hwf : (Lit.int .i64 id).wf = true := i64wf l0 u0
  have HE := Lib.hid hE; clear hE
  go_enter Tryd.func11, Tryd.ntmps11
  go_wp2_with fail
  refine (first10_calls w).mono ?_
  rintro e w1 ⟨rfl, hb1⟩
  have hs1 := hb1.size
  go_wp2_with fail
  have hA : ((w1.alloc (Obj.cells #[.int .i64 id, .int .i64 iss, .int .i64 cls, .int .i64 mon, .int .i64 en] 89)).alloc (Obj.cells #[.map none] 92)).cell? ⟨w1.heap.size + 1, 0, none⟩ = some (.map none) := by go_simp
  have hF : ((w1.alloc (Obj.cells #[.int .i64 id, .int .i64 iss, .int .i64 cls, .int .i64 mon, .int .i64 en] 89)).alloc (Obj.cells #[.map none] 92)).frozen? ⟨w1.heap.size + 1, 0, none⟩ = false := by go_simp
  have hB2 : Below w.heap.size w ((w1.alloc (Obj.cells #[.int .i64 id, .int .i64 iss, .int .i64 cls, .int .i64 mon, .int .i64 en] 89)).alloc (Obj.cells #[.map none] 92)) := by (repeat (first | exact Below.refl _ _ | assumption | refine Below.drew ?_ | refine below_many ?_ _ | refine Below.alloc ?_ (by first | (simp; done) | (simp; omega) | omega) _ | refine Below.setCell ?_ (by first | (simp; done) | (simp; omega) | omega) _))
  have hq : ∀ i u, (w1.alloc (Obj.cells #[.int .i64 id, .int .i64 iss, .int .i64 cls, .int .i64 mon, .int .i64 en] 89)).cell? ⟨w1.heap.size, i, none⟩ = some u → ((w1.alloc (Obj.cells #[.int .i64 id, .int .i64 iss, .int .i64 cls, .int .i64 mon, .int .i64 en] 89)).alloc (Obj.cells #[.map none] 92)).cell? ⟨w1.heap.size, i, none⟩ = some u := fun i u hu => (((Below.refl (w1.alloc (Obj.cells #[.int .i64 id, .int .i64 iss, .int .i64 cls, .int .i64 mon, .int .i64 en] 89)).heap.size (w1.alloc (Obj.cells #[.int .i64 id, .int .i64 iss, .int .i64 cls, .int .i64 mon, .int .i64 en] 89))).alloc (Nat.le_refl _) _).cell (p := ⟨w1.heap.size, i, none⟩) (by simp)).trans hu
  have q0 := hq 0 (.int .i64 id) (by go_simp)
  have q1 := hq 1 (.int .i64 iss) (by go_simp)
  have q2 := hq 2 (.int .i64 cls) (by go_simp)
  have q3 := hq 3 (.int .i64 mon) (by go_simp)
  have q4 := hq 4 (.int .i64 en) (by go_simp)
  obtain ⟨W, hW⟩ : ∃ W, W = ((w1.alloc (Obj.cells #[.int .i64 id, .int .i64 iss, .int .i64 cls, .int .i64 mon, .int .i64 en] 89)).alloc (Obj.cells #[.map none] 92)) := ⟨_, rfl⟩
  rw [← hW] at hA hF hB2 q0 q1 q2 q3 q4
  have hWs : w1.heap.size + 1 < W.heap.size := by rw [hW]; simp
  rw [← hW]
  clear hW hq
  refine (masterAdd_bad (HE.out.below hB2) (by decide) _ (id, iss, cls, mon, en) hv).mono ?_
  rintro e w2 ⟨rfl, hb2⟩
  rw [show ev p 2 = Value.iface 227 (.pointer (some (p 2))) from rfl]
  have hc2 := (hb2.cell (p := ⟨w1.heap.size + 1, 0, none⟩) hWs).trans hA
  have hB3 := hB2.trans (hb2.mono hB2.size)
  have hr : ∀ i u, W.cell? ⟨w1.heap.size, i, none⟩ = some u → w2.cell? ⟨w1.heap.size, i, none⟩ = some u := fun i u hu => (hb2.cell (p := ⟨w1.heap.size, i, none⟩) (show w1.heap.size < _ by omega)).trans hu
  have r0 := hr _ _ q0
  have r1 := hr _ _ q1
  have r2 := hr _ _ q2
  have r3 := hr _ _ q3
  have r4 := hr _ _ q4
  have hWs2 : w1.heap.size + 1 < w2.heap.size := Nat.lt_of_lt_of_le hWs hb2.size
  have HV := Lib.hid (validV_bad (p := p) hv)
  clear hb2 hA hF hB2 hr q0 q1 q2 q3 q4 hv
  go_wp2_with fail
  refine (masterGet_calls hc2 (.inl ⟨rfl, rfl⟩) id hwf).mono ?_
  rintro e w3 ⟨rfl, hb3⟩
  rw [show (mget ([] : Assets) id).getD zeroA = zeroA from rfl, show (mget ([] : Assets) id).isSome = false from rfl]
  have hc3 := (hb3.cell (p := ⟨w1.heap.size + 1, 0, none⟩) hWs2).trans hc2
  have hB4 := hB3.trans (hb3.mono hB3.size)
  have hr : ∀ i u, w2.cell? ⟨w1.heap.size, i, none⟩ = some u → ∀ ob : Obj, (w3.alloc ob).cell? ⟨w1.heap.size, i, none⟩ = some u := fun i u hu ob => ((hb3.trans ((Below.refl _ _).alloc hb3.size ob)).cell (p := ⟨w1.heap.size, i, none⟩) (show w1.heap.size < _ by omega)).trans hu
  have s0 := hr _ _ r0
  have s1 := hr _ _ r1
  have s2 := hr _ _ r2
  have s3 := hr _ _ r3
  have s4 := hr _ _ r4
  have hs3 := hB4.size
  have hWs3 : w1.heap.size + 1 < w3.heap.size := Nat.lt_of_lt_of_le hWs2 hb3.size
  clear hb3 hc2 hB3 hr r0 r1 r2 r3 r4
  unfold zeroA astV
  go_wp2_with fail
  refine (valid_calls (HE.out.below (show Below w.heap.size w _ by (repeat (first | exact Below.refl _ _ | assumption | refine Below.drew ?_ | refine below_many ?_ _ | refine Below.alloc ?_ (by first | (simp; done) | (simp; omega) | omega) _ | refine Below.setCell ?_ (by first | (simp; done) | (simp; omega) | omega) _)))) (by decide) id iss cls mon en).mono ?_
  rintro e w4 ⟨rfl, hb4⟩
  rw [HV.out, show ev p 2 = Value.iface 227 (.pointer (some (p 2))) from rfl]
  have hb4' : Below w3.heap.size w3 w4 := Below.trans ((Below.refl _ _).alloc (Nat.le_refl _) _) (hb4.mono (by simp))
  have hc4 := (hb4'.cell (p := ⟨w1.heap.size + 1, 0, none⟩) hWs3).trans hc3
  have hB5 := hB4.trans (hb4'.mono hs3)
  have hWs4 : w1.heap.size + 1 < w4.heap.size := Nat.lt_of_lt_of_le hWs3 hb4'.size
  clear hb4 hb4' hc3 hB4 s0 s1 s2 s3 s4
  go_wp2_with fail
  refine (is_ev (HE.out.below hB5) (k := 2) (by decide) 103).mono ?_
  rintro e w5 ⟨rfl, hb5⟩
  rw [show ((101 + ((2 : Nat) : Int)) == 103) = true from rfl]
  have hc5 := (hb5.cell (p := ⟨w1.heap.size + 1, 0, none⟩) hWs4).trans hc4
  have hB6 := hB5.trans (hb5.mono hB5.size)
  clear hb5 hc4 hB5
  go_wp2_with fail
  refine (all_calls hc5 (.inl ⟨rfl, rfl⟩) (by simp) (by simp)).mono ?_
  rintro e w6 ⟨v, rfl, hO, hb6⟩
  obtain ⟨ad, cap, rfl⟩ := hO.len
  rw [allOf_len]
  have hB7 := hB6.trans (hb6.mono hB6.size)
  clear hb6 hO hB6
  go_wp2_with fail
  go_ret
  exact ⟨rfl, hB7⟩

set_option maxHeartbeats 4000000 in
set_option maxRecDepth 100000 in
theorem ab_f2 {p : Nat → Addr} {w : World} (hE : Errs (List.range 21) w.heap.size p w) (id iss cls mon en : Int) (l0 : -9223372036854775808 ≤ id) (u0 : id ≤ 9223372036854775807) (hv : validA id iss cls mon en = false) (k0 : decide (1 ≤ id) = true) (k1 : decide (id ≤ 32) = true) (k2 : decide (0 ≤ iss) = false) :
    Calls Tryd.prog 11 #[.int .i64 id, .int .i64 iss, .int .i64 cls, .int .i64 mon, .int .i64 en] w fun e w' => e = .returned (.bool true) ∧ Below w.heap.size w w' := by
  have hwf : (Lit.int .i64 id).wf = true := i64wf l0 u0
  have HE := Lib.hid hE; clear hE
  go_enter Tryd.func11, Tryd.ntmps11
  go_wp2_with fail
  refine (first10_calls w).mono ?_
  rintro e w1 ⟨rfl, hb1⟩
  have hs1 := hb1.size
  go_wp2_with fail
  have hA : ((w1.alloc (Obj.cells #[.int .i64 id, .int .i64 iss, .int .i64 cls, .int .i64 mon, .int .i64 en] 89)).alloc (Obj.cells #[.map none] 92)).cell? ⟨w1.heap.size + 1, 0, none⟩ = some (.map none) := by go_simp
  have hF : ((w1.alloc (Obj.cells #[.int .i64 id, .int .i64 iss, .int .i64 cls, .int .i64 mon, .int .i64 en] 89)).alloc (Obj.cells #[.map none] 92)).frozen? ⟨w1.heap.size + 1, 0, none⟩ = false := by go_simp
  have hB2 : Below w.heap.size w ((w1.alloc (Obj.cells #[.int .i64 id, .int .i64 iss, .int .i64 cls, .int .i64 mon, .int .i64 en] 89)).alloc (Obj.cells #[.map none] 92)) := by (repeat (first | exact Below.refl _ _ | assumption | refine Below.drew ?_ | refine below_many ?_ _ | refine Below.alloc ?_ (by first | (simp; done) | (simp; omega) | omega) _ | refine Below.setCell ?_ (by first | (simp; done) | (simp; omega) | omega) _))
  have hq : ∀ i u, (w1.alloc (Obj.cells #[.int .i64 id, .int .i64 iss, .int .i64 cls, .int .i64 mon, .int .i64 en] 89)).cell? ⟨w1.heap.size, i, none⟩ = some u → ((w1.alloc (Obj.cells #[.int .i64 id, .int .i64 iss, .int .i64 cls, .int .i64 mon, .int .i64 en] 89)).alloc (Obj.cells #[.map none] 92)).cell? ⟨w1.heap.size, i, none⟩ = some u := fun i u hu => (((Below.refl (w1.alloc (Obj.cells #[.int .i64 id, .int .i64 iss, .int .i64 cls, .int .i64 mon, .int .i64 en] 89)).heap.size (w1.alloc (Obj.cells #[.int .i64 id, .int .i64 iss, .int .i64 cls, .int .i64 mon, .int .i64 en] 89))).alloc (Nat.le_refl _) _).cell (p := ⟨w1.heap.size, i, none⟩) (by simp)).trans hu
  have q0 := hq 0 (.int .i64 id) (by go_simp)
  have q1 := hq 1 (.int .i64 iss) (by go_simp)
  have q2 := hq 2 (.int .i64 cls) (by go_simp)
  have q3 := hq 3 (.int .i64 mon) (by go_simp)
  have q4 := hq 4 (.int .i64 en) (by go_simp)
  obtain ⟨W, hW⟩ : ∃ W, W = ((w1.alloc (Obj.cells #[.int .i64 id, .int .i64 iss, .int .i64 cls, .int .i64 mon, .int .i64 en] 89)).alloc (Obj.cells #[.map none] 92)) := ⟨_, rfl⟩
  rw [← hW] at hA hF hB2 q0 q1 q2 q3 q4
  have hWs : w1.heap.size + 1 < W.heap.size := by rw [hW]; simp
  rw [← hW]
  clear hW hq
  refine (masterAdd_bad (HE.out.below hB2) (by decide) _ (id, iss, cls, mon, en) hv).mono ?_
  rintro e w2 ⟨rfl, hb2⟩
  rw [show ev p 2 = Value.iface 227 (.pointer (some (p 2))) from rfl]
  have hc2 := (hb2.cell (p := ⟨w1.heap.size + 1, 0, none⟩) hWs).trans hA
  have hB3 := hB2.trans (hb2.mono hB2.size)
  have hr : ∀ i u, W.cell? ⟨w1.heap.size, i, none⟩ = some u → w2.cell? ⟨w1.heap.size, i, none⟩ = some u := fun i u hu => (hb2.cell (p := ⟨w1.heap.size, i, none⟩) (show w1.heap.size < _ by omega)).trans hu
  have r0 := hr _ _ q0
  have r1 := hr _ _ q1
  have r2 := hr _ _ q2
  have r3 := hr _ _ q3
  have r4 := hr _ _ q4
  have hWs2 : w1.heap.size + 1 < w2.heap.size := Nat.lt_of_lt_of_le hWs hb2.size
  have HV := Lib.hid (validV_bad (p := p) hv)
  clear hb2 hA hF hB2 hr q0 q1 q2 q3 q4 hv
  go_wp2_with fail
  refine (masterGet_calls hc2 (.inl ⟨rfl, rfl⟩) id hwf).mono ?_
  rintro e w3 ⟨rfl, hb3⟩
  rw [show (mget ([] : Assets) id).getD zeroA = zeroA from rfl, show (mget ([] : Assets) id).isSome = false from rfl]
  have hc3 := (hb3.cell (p := ⟨w1.heap.size + 1, 0, none⟩) hWs2).trans hc2
  have hB4 := hB3.trans (hb3.mono hB3.size)
  have hr : ∀ i u, w2.cell? ⟨w1.heap.size, i, none⟩ = some u → ∀ ob : Obj, (w3.alloc ob).cell? ⟨w1.heap.size, i, none⟩ = some u := fun i u hu ob => ((hb3.trans ((Below.refl _ _).alloc hb3.size ob)).cell (p := ⟨w1.heap.size, i, none⟩) (show w1.heap.size < _ by omega)).trans hu
  have s0 := hr _ _ r0
  have s1 := hr _ _ r1
  have s2 := hr _ _ r2
  have s3 := hr _ _ r3
  have s4 := hr _ _ r4
  have hs3 := hB4.size
  have hWs3 : w1.heap.size + 1 < w3.heap.size := Nat.lt_of_lt_of_le hWs2 hb3.size
  clear hb3 hc2 hB3 hr r0 r1 r2 r3 r4
  unfold zeroA astV
  go_wp2_with fail
  refine (valid_calls (HE.out.below (show Below w.heap.size w _ by (repeat (first | exact Below.refl _ _ | assumption | refine Below.drew ?_ | refine below_many ?_ _ | refine Below.alloc ?_ (by first | (simp; done) | (simp; omega) | omega) _ | refine Below.setCell ?_ (by first | (simp; done) | (simp; omega) | omega) _)))) (by decide) id iss cls mon en).mono ?_
  rintro e w4 ⟨rfl, hb4⟩
  rw [HV.out, show ev p 2 = Value.iface 227 (.pointer (some (p 2))) from rfl]
  have hb4' : Below w3.heap.size w3 w4 := Below.trans ((Below.refl _ _).alloc (Nat.le_refl _) _) (hb4.mono (by simp))
  have hc4 := (hb4'.cell (p := ⟨w1.heap.size + 1, 0, none⟩) hWs3).trans hc3
  have hB5 := hB4.trans (hb4'.mono hs3)
  have hWs4 : w1.heap.size + 1 < w4.heap.size := Nat.lt_of_lt_of_le hWs3 hb4'.size
  clear hb4 hb4' hc3 hB4 s0 s1 s2 s3 s4
  go_wp2_with fail
  refine (is_ev (HE.out.below hB5) (k := 2) (by decide) 103).mono ?_
  rintro e w5 ⟨rfl, hb5⟩
  rw [show ((101 + ((2 : Nat) : Int)) == 103) = true from rfl]
  have hc5 := (hb5.cell (p := ⟨w1.heap.size + 1, 0, none⟩) hWs4).trans hc4
  have hB6 := hB5.trans (hb5.mono hB5.size)
  clear hb5 hc4 hB5
  go_wp2_with fail
  refine (all_calls hc5 (.inl ⟨rfl, rfl⟩) (by simp) (by simp)).mono ?_
  rintro e w6 ⟨v, rfl, hO, hb6⟩
  obtain ⟨ad, cap, rfl⟩ := hO.len
  rw [allOf_len]
  have hB7 := hB6.trans (hb6.mono hB6.size)
  clear hb6 hO hB6
  go_wp2_with fail
  go_ret
  exact ⟨rfl, hB7⟩

set_option maxHeartbeats 4000000 in
set_option maxRecDepth 100000 in
theorem ab_f3 {p : Nat → Addr} {w : World} (hE : Errs (List.range 21) w.heap.size p w) (id iss cls mon en : Int) (l0 : -9223372036854775808 ≤ id) (u0 : id ≤ 9223372036854775807) (hv : validA id iss cls mon en = false) (k0 : decide (1 ≤ id) = true) (k1 : decide (id ≤ 32) = true) (k2 : decide (0 ≤ iss) = true) (k3 : decide (iss ≤ 32) = false) :
    Calls Tryd.prog 11 #[.int .i64 id, .int .i64 iss, .int .i64 cls, .int .i64 mon, .int .i64 en] w fun e w' => e = .returned (.bool true) ∧ Below w.heap.size w w' := by
  have hwf : (Lit.int .i64 id).wf = true := i64wf l0 u0
  have HE := Lib.hid hE; clear hE
  go_enter Tryd.func11, Tryd.ntmps11
  go_wp2_with fail
  refine (first10_calls w).mono ?_
  rintro e w1 ⟨rfl, hb1⟩
  have hs1 := hb1.size
  go_wp2_with fail
  have hA : ((w1.alloc (Obj.cells #[.int .i64 id, .int .i64 iss, .int .i64 cls, .int .i64 mon, .int .i64 en] 89)).alloc (Obj.cells #[.map none] 92)).cell? ⟨w1.heap.size + 1, 0, none⟩ = some (.map none) := by go_simp
  have hF : ((w1.alloc (Obj.cells #[.int .i64 id, .int .i64 iss, .int .i64 cls, .int .i64 mon, .int .i64 en] 89)).alloc (Obj.cells #[.map none] 92)).frozen? ⟨w1.heap.size + 1, 0, none⟩ = false := by go_simp
  have hB2 : Below w.heap.size w ((w1.alloc (Obj.cells #[.int .i64 id, .int .i64 iss, .int .i64 cls, .int .i64 mon, .int .i64 en] 89)).alloc (Obj.cells #[.map none] 92)) := by (repeat (first | exact Below.refl _ _ | assumption | refine Below.drew ?_ | refine below_many ?_ _ | refine Below.alloc ?_ (by first | (simp; done) | (simp; omega) | omega) _ | refine Below.setCell ?_ (by first | (simp; done) | (simp; omega) | omega) _))
  have hq : ∀ i u, (w1.alloc (Obj.cells #[.int .i64 id, .int .i64 iss, .int .i64 cls, .int .i64 mon, .int .i64 en] 89)).cell? ⟨w1.heap.size, i, none⟩ = some u → ((w1.alloc (Obj.cells #[.int .i64 id, .int .i64 iss, .int .i64 cls, .int .i64 mon, .int .i64 en] 89)).alloc (Obj.cells #[.map none] 92)).cell? ⟨w1.heap.size, i, none⟩ = some u := fun i u hu => (((Below.refl (w1.alloc (Obj.cells #[.int .i64 id, .int .i64 iss, .int .i64 cls, .int .i64 mon, .int .i64 en] 89)).heap.size (w1.alloc (Obj.cells #[.int .i64 id, .int .i64 iss, .int .i64 cls, .int .i64 mon, .int .i64 en] 89))).alloc (Nat.le_refl _) _).cell (p := ⟨w1.heap.size, i, none⟩) (by simp)).trans hu
  have q0 := hq 0 (.int .i64 id) (by go_simp)
  have q1 := hq 1 (.int .i64 iss) (by go_simp)
  have q2 := hq 2 (.int .i64 cls) (by go_simp)
  have q3 := hq 3 (.int .i64 mon) (by go_simp)
  have q4 := hq 4 (.int .i64 en) (by go_simp)
  obtain ⟨W, hW⟩ : ∃ W, W = ((w1.alloc (Obj.cells #[.int .i64 id, .int .i64 iss, .int .i64 cls, .int .i64 mon, .int .i64 en] 89)).alloc (Obj.cells #[.map none] 92)) := ⟨_, rfl⟩
  rw [← hW] at hA hF hB2 q0 q1 q2 q3 q4
  have hWs : w1.heap.size + 1 < W.heap.size := by rw [hW]; simp
  rw [← hW]
  clear hW hq
  refine (masterAdd_bad (HE.out.below hB2) (by decide) _ (id, iss, cls, mon, en) hv).mono ?_
  rintro e w2 ⟨rfl, hb2⟩
  rw [show ev p 2 = Value.iface 227 (.pointer (some (p 2))) from rfl]
  have hc2 := (hb2.cell (p := ⟨w1.heap.size + 1, 0, none⟩) hWs).trans hA
  have hB3 := hB2.trans (hb2.mono hB2.size)
  have hr : ∀ i u, W.cell? ⟨w1.heap.size, i, none⟩ = some u → w2.cell? ⟨w1.heap.size, i, none⟩ = some u := fun i u hu => (hb2.cell (p := ⟨w1.heap.size, i, none⟩) (show w1.heap.size < _ by omega)).trans hu
  have r0 := hr _ _ q0
  have r1 := hr _ _ q1
  have r2 := hr _ _ q2
  have r3 := hr _ _ q3
  have r4 := hr _ _ q4
  have hWs2 : w1.heap.size + 1 < w2.heap.size := Nat.lt_of_lt_of_le hWs hb2.size
  have HV := Lib.hid (validV_bad (p := p) hv)
  clear hb2 hA hF hB2 hr q0 q1 q2 q3 q4 hv
  go_wp2_with fail
  refine (masterGet_calls hc2 (.inl ⟨rfl, rfl⟩) id hwf).mono ?_
  rintro e w3 ⟨rfl, hb3⟩
  rw [show (mget ([] : Assets) id).getD zeroA = zeroA from rfl, show (mget ([] : Assets) id).isSome = false from rfl]
  have hc3 := (hb3.cell (p := ⟨w1.heap.size + 1, 0, none⟩) hWs2).trans hc2
  have hB4 := hB3.trans (hb3.mono hB3.size)
  have hr : ∀ i u, w2.cell? ⟨w1.heap.size, i, none⟩ = some u → ∀ ob : Obj, (w3.alloc ob).cell? ⟨w1.heap.size, i, none⟩ = some u := fun i u hu ob => ((hb3.trans ((Below.refl _ _).alloc hb3.size ob)).cell (p := ⟨w1.heap.size, i, none⟩) (show w1.heap.size < _ by omega)).trans hu
  have s0 := hr _ _ r0
  have s1 := hr _ _ r1
  have s2 := hr _ _ r2
  have s3 := hr _ _ r3
  have s4 := hr _ _ r4
  have hs3 := hB4.size
  have hWs3 : w1.heap.size + 1 < w3.heap.size := Nat.lt_of_lt_of_le hWs2 hb3.size
  clear hb3 hc2 hB3 hr r0 r1 r2 r3 r4
  unfold zeroA astV
  go_wp2_with fail
  refine (valid_calls (HE.out.below (show Below w.heap.size w _ by (repeat (first | exact Below.refl _ _ | assumption | refine Below.drew ?_ | refine below_many ?_ _ | refine Below.alloc ?_ (by first | (simp; done) | (simp; omega) | omega) _ | refine Below.setCell ?_ (by first | (simp; done) | (simp; omega) | omega) _)))) (by decide) id iss cls mon en).mono ?_
  rintro e w4 ⟨rfl, hb4⟩
  rw [HV.out, show ev p 2 = Value.iface 227 (.pointer (some (p 2))) from rfl]
  have hb4' : Below w3.heap.size w3 w4 := Below.trans ((Below.refl _ _).alloc (Nat.le_refl _) _) (hb4.mono (by simp))
  have hc4 := (hb4'.cell (p := ⟨w1.heap.size + 1, 0, none⟩) hWs3).trans hc3
  have hB5 := hB4.trans (hb4'.mono hs3)
  have hWs4 : w1.heap.size + 1 < w4.heap.size := Nat.lt_of_lt_of_le hWs3 hb4'.size
  clear hb4 hb4' hc3 hB4 s0 s1 s2 s3 s4
  go_wp2_with fail
  refine (is_ev (HE.out.below hB5) (k := 2) (by decide) 103).mono ?_
  rintro e w5 ⟨rfl, hb5⟩
  rw [show ((101 + ((2 : Nat) : Int)) == 103) = true from rfl]
  have hc5 := (hb5.cell (p := ⟨w1.heap.size + 1, 0, none⟩) hWs4).trans hc4
  have hB6 := hB5.trans (hb5.mono hB5.size)
  clear hb5 hc4 hB5
  go_wp2_with fail
  refine (all_calls hc5 (.inl ⟨rfl, rfl⟩) (by simp) (by simp)).mono ?_
  rintro e w6 ⟨v, rfl, hO, hb6⟩
  obtain ⟨ad, cap, rfl⟩ := hO.len
  rw [allOf_len]
  have hB7 := hB6.trans (hb6.mono hB6.size)
  clear hb6 hO hB6
  go_wp2_with fail
  go_ret
  exact ⟨rfl, hB7⟩

set_option maxHeartbeats 4000000 in
set_option maxRecDepth 100000 in
theorem ab_f4 {p : Nat → Addr} {w : World} (hE : Errs (List.range 21) w.heap.size p w) (id iss cls mon en : Int) (l0 : -9223372036854775808 ≤ id) (u0 : id ≤ 9223372036854775807) (hv : validA id iss cls mon en = false) (k0 : decide (1 ≤ id) = true) (k1 : decide (id ≤ 32) = true) (k2 : decide (0 ≤ iss) = true) (k3 : decide (iss ≤ 32) = true) (k4 : decide (1 ≤ cls) = false) :
    Calls Tryd.prog 11 #[.int .i64 id, .int .i64 iss, .int .i64 cls, .int .i64 mon, .int .i64 en] w fun e w' => e = .returned (.bool true) ∧ Below w.heap.size w w' := by
  have hwf : (Lit.int .i64 id).wf = true := i64wf l0 u0
  have HE := Lib.hid hE; clear hE
  go_enter Tryd.func11, Tryd.ntmps11
  go_wp2_with fail
  refine (first10_calls w).mono ?_
  rintro e w1 ⟨rfl, hb1⟩
  have hs1 := hb1.size
  go_wp2_with fail
  have hA : ((w1.alloc (Obj.cells #[.int .i64 id, .int .i64 iss, .int .i64 cls, .int .i64 mon, .int .i64 en] 89)).alloc (Obj.cells #[.map none] 92)).cell? ⟨w1.heap.size + 1, 0, none⟩ = some (.map none) := by go_simp
  have hF : ((w1.alloc (Obj.cells #[.int .i64 id, .int .i64 iss, .int .i64 cls, .int .i64 mon, .int .i64 en] 89)).alloc (Obj.cells #[.map none] 92)).frozen? ⟨w1.heap.size + 1, 0, none⟩ = false := by go_simp
  have hB2 : Below w.heap.size w ((w1.alloc (Obj.cells #[.int .i64 id, .int .i64 iss, .int .i64 cls, .int .i64 mon, .int .i64 en] 89)).alloc (Obj.cells #[.map none] 92)) := by (repeat (first | exact Below.refl _ _ | assumption | refine Below.drew ?_ | refine below_many ?_ _ | refine Below.alloc ?_ (by first | (simp; done) | (simp; omega) | omega) _ | refine Below.setCell ?_ (by first | (simp; done) | (simp; omega) | omega) _))
  have hq : ∀ i u, (w1.alloc (Obj.cells #[.int .i64 id, .int .i64 iss, .int .i64 cls, .int .i64 mon, .int .i64 en] 89)).cell? ⟨w1.heap.size, i, none⟩ = some u → ((w1.alloc (Obj.cells #[.int .i64 id, .int .i64 iss, .int .i64 cls, .int .i64 mon, .int .i64 en] 89)).alloc (Obj.cells #[.map none] 92)).cell? ⟨w1.heap.size, i, none⟩ = some u := fun i u hu => (((Below.refl (w1.alloc (Obj.cells #[.int .i64 id, .int .i64 iss, .int .i64 cls, .int .i64 mon, .int .i64 en] 89)).heap.size (w1.alloc (Obj.cells #[.int .i64 id, .int .i64 iss, .int .i64 cls, .int .i64 mon, .int .i64 en] 89))).alloc (Nat.le_refl _) _).cell (p := ⟨w1.heap.size, i, none⟩) (by simp)).trans hu
  have q0 := hq 0 (.int .i64 id) (by go_simp)
  have q1 := hq 1 (.int .i64 iss) (by go_simp)
  have q2 := hq 2 (.int .i64 cls) (by go_simp)
  have q3 := hq 3 (.int .i64 mon) (by go_simp)
  have q4 := hq 4 (.int .i64 en) (by go_simp)
  obtain ⟨W, hW⟩ : ∃ W, W = ((w1.alloc (Obj.cells #[.int .i64 id, .int .i64 iss, .int .i64 cls, .int .i64 mon, .int .i64 en] 89)).alloc (Obj.cells #[.map none] 92)) := ⟨_, rfl⟩
  rw [← hW] at hA hF hB2 q0 q1 q2 q3 q4
  have hWs : w1.heap.size + 1 < W.heap.size := by rw [hW]; simp
  rw [← hW]
  clear hW hq
  refine (masterAdd_bad (HE.out.below hB2) (by decide) _ (id, iss, cls, mon, en) hv).mono ?_
  rintro e w2 ⟨rfl, hb2⟩
  rw [show ev p 2 = Value.iface 227 (.pointer (some (p 2))) from rfl]
  have hc2 := (hb2.cell (p := ⟨w1.heap.size + 1, 0, none⟩) hWs).trans hA
  have hB3 := hB2.trans (hb2.mono hB2.size)
  have hr : ∀ i u, W.cell? ⟨w1.heap.size, i, none⟩ = some u → w2.cell? ⟨w1.heap.size, i, none⟩ = some u := fun i u hu => (hb2.cell (p := ⟨w1.heap.size, i, none⟩) (show w1.heap.size < _ by omega)).trans hu
  have r0 := hr _ _ q0
  have r1 := hr _ _ q1
  have r2 := hr _ _ q2
  have r3 := hr _ _ q3
  have r4 := hr _ _ q4
  have hWs2 : w1.heap.size + 1 < w2.heap.size := Nat.lt_of_lt_of_le hWs hb2.size
  have HV := Lib.hid (validV_bad (p := p) hv)
  clear hb2 hA hF hB2 hr q0 q1 q2 q3 q4 hv
  go_wp2_with fail
  refine (masterGet_calls hc2 (.inl ⟨rfl, rfl⟩) id hwf).mono ?_
  rintro e w3 ⟨rfl, hb3⟩
  rw [show (mget ([] : Assets) id).getD zeroA = zeroA from rfl, show (mget ([] : Assets) id).isSome = false from rfl]
  have hc3 := (hb3.cell (p := ⟨w1.heap.size + 1, 0, none⟩) hWs2).trans hc2
  have hB4 := hB3.trans (hb3.mono hB3.size)
  have hr : ∀ i u, w2.cell? ⟨w1.heap.size, i, none⟩ = some u → ∀ ob : Obj, (w3.alloc ob).cell? ⟨w1.heap.size, i, none⟩ = some u := fun i u hu ob => ((hb3.trans ((Below.refl _ _).alloc hb3.size ob)).cell (p := ⟨w1.heap.size, i, none⟩) (show w1.heap.size < _ by omega)).trans hu
  have s0 := hr _ _ r0
  have s1 := hr _ _ r1
  have s2 := hr _ _ r2
  have s3 := hr _ _ r3
  have s4 := hr _ _ r4
  have hs3 := hB4.size
  have hWs3 : w1.heap.size + 1 < w3.heap.size := Nat.lt_of_lt_of_le hWs2 hb3.size
  clear hb3 hc2 hB3 hr r0 r1 r2 r3 r4
  unfold zeroA astV
  go_wp2_with fail
  refine (valid_calls (HE.out.below (show Below w.heap.size w _ by (repeat (first | exact Below.refl _ _ | assumption | refine Below.drew ?_ | refine below_many ?_ _ | refine Below.alloc ?_ (by first | (simp; done) | (simp; omega) | omega) _ | refine Below.setCell ?_ (by first | (simp; done) | (simp; omega) | omega) _)))) (by decide) id iss cls mon en).mono ?_
  rintro e w4 ⟨rfl, hb4⟩
  rw [HV.out, show ev p 2 = Value.iface 227 (.pointer (some (p 2))) from rfl]
  have hb4' : Below w3.heap.size w3 w4 := Below.trans ((Below.refl _ _).alloc (Nat.le_refl _) _) (hb4.mono (by simp))
  have hc4 := (hb4'.cell (p := ⟨w1.heap.size + 1, 0, none⟩) hWs3).trans hc3
  have hB5 := hB4.trans (hb4'.mono hs3)
  have hWs4 : w1.heap.size + 1 < w4.heap.size := Nat.lt_of_lt_of_le hWs3 hb4'.size
  clear hb4 hb4' hc3 hB4 s0 s1 s2 s3 s4
  go_wp2_with fail
  refine (is_ev (HE.out.below hB5) (k := 2) (by decide) 103).mono ?_
  rintro e w5 ⟨rfl, hb5⟩
  rw [show ((101 + ((2 : Nat) : Int)) == 103) = true from rfl]
  have hc5 := (hb5.cell (p := ⟨w1.heap.size + 1, 0, none⟩) hWs4).trans hc4
  have hB6 := hB5.trans (hb5.mono hB5.size)
  clear hb5 hc4 hB5
  go_wp2_with fail
  refine (all_calls hc5 (.inl ⟨rfl, rfl⟩) (by simp) (by simp)).mono ?_
  rintro e w6 ⟨v, rfl, hO, hb6⟩
  obtain ⟨ad, cap, rfl⟩ := hO.len
  rw [allOf_len]
  have hB7 := hB6.trans (hb6.mono hB6.size)
  clear hb6 hO hB6
  go_wp2_with fail
  go_ret
  exact ⟨rfl, hB7⟩

set_option maxHeartbeats 4000000 in
set_option maxRecDepth 100000 in
theorem ab_f5 {p : Nat → Addr} {w : World} (hE : Errs (List.range 21) w.heap.size p w) (id iss cls mon en : Int) (l0 : -9223372036854775808 ≤ id) (u0 : id ≤ 9223372036854775807) (hv : validA id iss cls mon en = false) (k0 : decide (1 ≤ id) = true) (k1 : decide (id ≤ 32) = true) (k2 : decide (0 ≤ iss) = true) (k3 : decide (iss ≤ 32) = true) (k4 : decide (1 ≤ cls) = true) (k5 : decide (cls ≤ 6) = false) :
    Calls Tryd.prog 11 #[.int .i64 id, .int .i64 iss, .int .i64 cls, .int .i64 mon, .int .i64 en] w fun e w' => e = .returned (.bool true) ∧ Below w.heap.size w w' := by
  have hwf : (Lit.int .i64 id).wf = true := i64wf l0 u0
  have HE := Lib.hid hE; clear hE
  go_enter Tryd.func11, Tryd.ntmps11
  go_wp2_with fail
  refine (first10_calls w).mono ?_
  rintro e w1 ⟨rfl, hb1⟩
  have hs1 := hb1.size
  go_wp2_with fail
  have hA : ((w1.alloc (Obj.cells #[.int .i64 id, .int .i64 iss, .int .i64 cls, .int .i64 mon, .int .i64 en] 89)).alloc (Obj.cells #[.map none] 92)).cell? ⟨w1.heap.size + 1, 0, none⟩ = some (.map none) := by go_simp
  have hF : ((w1.alloc (Obj.cells #[.int .i64 id, .int .i64 iss, .int .i64 cls, .int .i64 mon, .int .i64 en] 89)).alloc (Obj.cells #[.map none] 92)).frozen? ⟨w1.heap.size + 1, 0, none⟩ = false := by go_simp
  have hB2 : Below w.heap.size w ((w1.alloc (Obj.cells #[.int .i64 id, .int .i64 iss, .int .i64 cls, .int .i64 mon, .int .i64 en] 89)).alloc (Obj.cells #[.map none] 92)) := by (repeat (first | exact Below.refl _ _ | assumption | refine Below.drew ?_ | refine below_many ?_ _ | refine Below.alloc ?_ (by first | (simp; done) | (simp; omega) | omega) _ | refine Below.setCell ?_ (by first | (simp; done) | (simp; omega) | omega) _))
  have hq : ∀ i u, (w1.alloc (Obj.cells #[.int .i64 id, .int .i64 iss, .int .i64 cls, .int .i64 mon, .int .i64 en] 89)).cell? ⟨w1.heap.size, i, none⟩ = some u → ((w1.alloc (Obj.cells #[.int .i64 id, .int .i64 iss, .int .i64 cls, .int .i64 mon, .int .i64 en] 89)).alloc (Obj.cells #[.map none] 92)).cell? ⟨w1.heap.size, i, none⟩ = some u := fun i u hu => (((Below.refl (w1.alloc (Obj.cells #[.int .i64 id, .int .i64 iss, .int .i64 cls, .int .i64 mon, .int .i64 en] 89)).heap.size (w1.alloc (Obj.cells #[.int .i64 id, .int .i64 iss, .int .i64 cls, .int .i64 mon, .int .i64 en] 89))).alloc (Nat.le_refl _) _).cell (p := ⟨w1.heap.size, i, none⟩) (by simp)).trans hu
  have q0 := hq 0 (.int .i64 id) (by go_simp)
  have q1 := hq 1 (.int .i64 iss) (by go_simp)
  have q2 := hq 2 (.int .i64 cls) (by go_simp)
  have q3 := hq 3 (.int .i64 mon) (by go_simp)
  have q4 := hq 4 (.int .i64 en) (by go_simp)
  obtain ⟨W, hW⟩ : ∃ W, W = ((w1.alloc (Obj.cells #[.int .i64 id, .int .i64 iss, .int .i64 cls, .int .i64 mon, .int .i64 en] 89)).alloc (Obj.cells #[.map none] 92)) := ⟨_, rfl⟩
  rw [← hW] at hA hF hB2 q0 q1 q2 q3 q4
  have hWs : w1.heap.size + 1 < W.heap.size := by rw [hW]; simp
  rw [← hW]
  clear hW hq
  refine (masterAdd_bad (HE.out.below hB2) (by decide) _ (id, iss, cls, mon, en) hv).mono ?_
  rintro e w2 ⟨rfl, hb2⟩
  rw [show ev p 2 = Value.iface 227 (.pointer (some (p 2))) from rfl]
  have hc2 := (hb2.cell (p := ⟨w1.heap.size + 1, 0, none⟩) hWs).trans hA
  have hB3 := hB2.trans (hb2.mono hB2.size)
  have hr : ∀ i u, W.cell? ⟨w1.heap.size, i, none⟩ = some u → w2.cell? ⟨w1.heap.size, i, none⟩ = some u := fun i u hu => (hb2.cell (p := ⟨w1.heap.size, i, none⟩) (show w1.heap.size < _ by omega)).trans hu
  have r0 := hr _ _ q0
  have r1 := hr _ _ q1
  have r2 := hr _ _ q2
  have r3 := hr _ _ q3
  have r4 := hr _ _ q4
  have hWs2 : w1.heap.size + 1 < w2.heap.size := Nat.lt_of_lt_of_le hWs hb2.size
  have HV := Lib.hid (validV_bad (p := p) hv)
  clear hb2 hA hF hB2 hr q0 q1 q2 q3 q4 hv
  go_wp2_with fail
  refine (masterGet_calls hc2 (.inl ⟨rfl, rfl⟩) id hwf).mono ?_
  rintro e w3 ⟨rfl, hb3⟩
  rw [show (mget ([] : Assets) id).getD zeroA = zeroA from rfl, show (mget ([] : Assets) id).isSome = false from rfl]
  have hc3 := (hb3.cell (p := ⟨w1.heap.size + 1, 0, none⟩) hWs2).trans hc2
  have hB4 := hB3.trans (hb3.mono hB3.size)
  have hr : ∀ i u, w2.cell? ⟨w1.heap.size, i, none⟩ = some u → ∀ ob : Obj, (w3.alloc ob).cell? ⟨w1.heap.size, i, none⟩ = some u := fun i u hu ob => ((hb3.trans ((Below.refl _ _).alloc hb3.size ob)).cell (p := ⟨w1.heap.size, i, none⟩) (show w1.heap.size < _ by omega)).trans hu
  have s0 := hr _ _ r0
  have s1 := hr _ _ r1
  have s2 := hr _ _ r2
  have s3 := hr _ _ r3
  have s4 := hr _ _ r4
  have hs3 := hB4.size
  have hWs3 : w1.heap.size + 1 < w3.heap.size := Nat.lt_of_lt_of_le hWs2 hb3.size
  clear hb3 hc2 hB3 hr r0 r1 r2 r3 r4
  unfold zeroA astV
  go_wp2_with fail
  refine (valid_calls (HE.out.below (show Below w.heap.size w _ by (repeat (first | exact Below.refl _ _ | assumption | refine Below.drew ?_ | refine below_many ?_ _ | refine Below.alloc ?_ (by first | (simp; done) | (simp; omega) | omega) _ | refine Below.setCell ?_ (by first | (simp; done) | (simp; omega) | omega) _)))) (by decide) id iss cls mon en).mono ?_
  rintro e w4 ⟨rfl, hb4⟩
  rw [HV.out, show ev p 2 = Value.iface 227 (.pointer (some (p 2))) from rfl]
  have hb4' : Below w3.heap.size w3 w4 := Below.trans ((Below.refl _ _).alloc (Nat.le_refl _) _) (hb4.mono (by simp))
  have hc4 := (hb4'.cell (p := ⟨w1.heap.size + 1, 0, none⟩) hWs3).trans hc3
  have hB5 := hB4.trans (hb4'.mono hs3)
  have hWs4 : w1.heap.size + 1 < w4.heap.size := Nat.lt_of_lt_of_le hWs3 hb4'.size
  clear hb4 hb4' hc3 hB4 s0 s1 s2 s3 s4
  go_wp2_with fail
  refine (is_ev (HE.out.below hB5) (k := 2) (by decide) 103).mono ?_
  rintro e w5 ⟨rfl, hb5⟩
  rw [show ((101 + ((2 : Nat) : Int)) == 103) = true from rfl]
  have hc5 := (hb5.cell (p := ⟨w1.heap.size + 1, 0, none⟩) hWs4).trans hc4
  have hB6 := hB5.trans (hb5.mono hB5.size)
  clear hb5 hc4 hB5
  go_wp2_with fail
  refine (all_calls hc5 (.inl ⟨rfl, rfl⟩) (by simp) (by simp)).mono ?_
  rintro e w6 ⟨v, rfl, hO, hb6⟩
  obtain ⟨ad, cap, rfl⟩ := hO.len
  rw [allOf_len]
  have hB7 := hB6.trans (hb6.mono hB6.size)
  clear hb6 hO hB6
  go_wp2_with fail
  go_ret
  exact ⟨rfl, hB7⟩

set_option maxHeartbeats 4000000 in
set_option maxRecDepth 100000 in
theorem ab_f6 {p : Nat → Addr} {w : World} (hE : Errs (List.range 21) w.heap.size p w) (id iss cls mon en : Int) (l0 : -9223372036854775808 ≤ id) (u0 : id ≤ 9223372036854775807) (hv : validA id iss cls mon en = false) (k0 : decide (1 ≤ id) = true) (k1 : decide (id ≤ 32) = true) (k2 : decide (0 ≤ iss) = true) (k3 : decide (iss ≤ 32) = true) (k4 : decide (1 ≤ cls) = true) (k5 : decide (cls ≤ 6) = true) (k6 : decide (1 ≤ mon) = false) :
    Calls Tryd.prog 11 #[.int .i64 id, .int .i64 iss, .int .i64 cls, .int .i64 mon, .int .i64 en] w fun e w' => e = .returned (.bool true) ∧ Below w.heap.size w w' := by
  have hwf : (Lit.int .i64 id).wf = true := i64wf l0 u0
  have HE := Lib.hid hE; clear hE
  go_enter Tryd.func11, Tryd.ntmps11
  go_wp2_with fail
  refine (first10_calls w).mono ?_
  rintro e w1 ⟨rfl, hb1⟩
  have hs1 := hb1.size
  go_wp2_with fail
  have hA : ((w1.alloc (Obj.cells #[.int .i64 id, .int .i64 iss, .int .i64 cls, .int .i64 mon, .int .i64 en] 89)).alloc (Obj.cells #[.map none] 92)).cell? ⟨w1.heap.size + 1, 0, none⟩ = some (.map none) := by go_simp
  have hF : ((w1.alloc (Obj.cells #[.int .i64 id, .int .i64 iss, .int .i64 cls, .int .i64 mon, .int .i64 en] 89)).alloc (Obj.cells #[.map none] 92)).frozen? ⟨w1.heap.size + 1, 0, none⟩ = false := by go_simp
  have hB2 : Below w.heap.size w ((w1.alloc (Obj.cells #[.int .i64 id, .int .i64 iss, .int .i64 cls, .int .i64 mon, .int .i64 en] 89)).alloc (Obj.cells #[.map none] 92)) := by (repeat (first | exact Below.refl _ _ | assumption | refine Below.drew ?_ | refine below_many ?_ _ | refine Below.alloc ?_ (by first | (simp; done) | (simp; omega) | omega) _ | refine Below.setCell ?_ (by first | (simp; done) | (simp; omega) | omega) _))
  have hq : ∀ i u, (w1.alloc (Obj.cells #[.int .i64 id, .int .i64 iss, .int .i64 cls, .int .i64 mon, .int .i64 en] 89)).cell? ⟨w1.heap.size, i, none⟩ = some u → ((w1.alloc (Obj.cells #[.int .i64 id, .int .i64 iss, .int .i64 cls, .int .i64 mon, .int .i64 en] 89)).alloc (Obj.cells #[.map none] 92)).cell? ⟨w1.heap.size, i, none⟩ = some u := fun i u hu => (((Below.refl (w1.alloc (Obj.cells #[.int .i64 id, .int .i64 iss, .int .i64 cls, .int .i64 mon, .int .i64 en] 89)).heap.size (w1.alloc (Obj.cells #[.int .i64 id, .int .i64 iss, .int .i64 cls, .int .i64 mon, .int .i64 en] 89))).alloc (Nat.le_refl _) _).cell (p := ⟨w1.heap.size, i, none⟩) (by simp)).trans hu
  have q0 := hq 0 (.int .i64 id) (by go_simp)
  have q1 := hq 1 (.int .i64 iss) (by go_simp)
  have q2 := hq 2 (.int .i64 cls) (by go_simp)
  have q3 := hq 3 (.int .i64 mon) (by go_simp)
  have q4 := hq 4 (.int .i64 en) (by go_simp)
  obtain ⟨W, hW⟩ : ∃ W, W = ((w1.alloc (Obj.cells #[.int .i64 id, .int .i64 iss, .int .i64 cls, .int .i64 mon, .int .i64 en] 89)).alloc (Obj.cells #[.map none] 92)) := ⟨_, rfl⟩
  rw [← hW] at hA hF hB2 q0 q1 q2 q3 q4
  have hWs : w1.heap.size + 1 < W.heap.size := by rw [hW]; simp
  rw [← hW]
  clear hW hq
  refine (masterAdd_bad (HE.out.below hB2) (by decide) _ (id, iss, cls, mon, en) hv).mono ?_
  rintro e w2 ⟨rfl, hb2⟩
  rw [show ev p 2 = Value.iface 227 (.pointer (some (p 2))) from rfl]
  have hc2 := (hb2.cell (p := ⟨w1.heap.size + 1, 0, none⟩) hWs).trans hA
  have hB3 := hB2.trans (hb2.mono hB2.size)
  have hr : ∀ i u, W.cell? ⟨w1.heap.size, i, none⟩ = some u → w2.cell? ⟨w1.heap.size, i, none⟩ = some u := fun i u hu => (hb2.cell (p := ⟨w1.heap.size, i, none⟩) (show w1.heap.size < _ by omega)).trans hu
  have r0 := hr _ _ q0
  have r1 := hr _ _ q1
  have r2 := hr _ _ q2
  have r3 := hr _ _ q3
  have r4 := hr _ _ q4
  have hWs2 : w1.heap.size + 1 < w2.heap.size := Nat.lt_of_lt_of_le hWs hb2.size
  have HV := Lib.hid (validV_bad (p := p) hv)
  clear hb2 hA hF hB2 hr q0 q1 q2 q3 q4 hv
  go_wp2_with fail
  refine (masterGet_calls hc2 (.inl ⟨rfl, rfl⟩) id hwf).mono ?_
  rintro e w3 ⟨rfl, hb3⟩
  rw [show (mget ([] : Assets) id).getD zeroA = zeroA from rfl, show (mget ([] : Assets) id).isSome = false from rfl]
  have hc3 := (hb3.cell (p := ⟨w1.heap.size + 1, 0, none⟩) hWs2).trans hc2
  have hB4 := hB3.trans (hb3.mono hB3.size)
  have hr : ∀ i u, w2.cell? ⟨w1.heap.size, i, none⟩ = some u → ∀ ob : Obj, (w3.alloc ob).cell? ⟨w1.heap.size, i, none⟩ = some u := fun i u hu ob => ((hb3.trans ((Below.refl _ _).alloc hb3.size ob)).cell (p := ⟨w1.heap.size, i, none⟩) (show w1.heap.size < _ by omega)).trans hu
  have s0 := hr _ _ r0
  have s1 := hr _ _ r1
  have s2 := hr _ _ r2
  have s3 := hr _ _ r3
  have s4 := hr _ _ r4
  have hs3 := hB4.size
  have hWs3 : w1.heap.size + 1 < w3.heap.size := Nat.lt_of_lt_of_le hWs2 hb3.size
  clear hb3 hc2 hB3 hr r0 r1 r2 r3 r4
  unfold zeroA astV
  go_wp2_with fail
  refine (valid_calls (HE.out.below (show Below w.heap.size w _ by (repeat (first | exact Below.refl _ _ | assumption | refine Below.drew ?_ | refine below_many ?_ _ | refine Below.alloc ?_ (by first | (simp; done) | (simp; omega) | omega) _ | refine Below.setCell ?_ (by first | (simp; done) | (simp; omega) | omega) _)))) (by decide) id iss cls mon en).mono ?_
  rintro e w4 ⟨rfl, hb4⟩
  rw [HV.out, show ev p 2 = Value.iface 227 (.pointer (some (p 2))) from rfl]
  have hb4' : Below w3.heap.size w3 w4 := Below.trans ((Below.refl _ _).alloc (Nat.le_refl _) _) (hb4.mono (by simp))
  have hc4 := (hb4'.cell (p := ⟨w1.heap.size + 1, 0, none⟩) hWs3).trans hc3
  have hB5 := hB4.trans (hb4'.mono hs3)
  have hWs4 : w1.heap.size + 1 < w4.heap.size := Nat.lt_of_lt_of_le hWs3 hb4'.size
  clear hb4 hb4' hc3 hB4 s0 s1 s2 s3 s4
  go_wp2_with fail
  refine (is_ev (HE.out.below hB5) (k := 2) (by decide) 103).mono ?_
  rintro e w5 ⟨rfl, hb5⟩
  rw [show ((101 + ((2 : Nat) : Int)) == 103) = true from rfl]
  have hc5 := (hb5.cell (p := ⟨w1.heap.size + 1, 0, none⟩) hWs4).trans hc4
  have hB6 := hB5.trans (hb5.mono hB5.size)
  clear hb5 hc4 hB5
  go_wp2_with fail
  refine (all_calls hc5 (.inl ⟨rfl, rfl⟩) (by simp) (by simp)).mono ?_
  rintro e w6 ⟨v, rfl, hO, hb6⟩
  obtain ⟨ad, cap, rfl⟩ := hO.len
  rw [allOf_len]
  have hB7 := hB6.trans (hb6.mono hB6.size)
  clear hb6 hO hB6
  go_wp2_with fail
  go_ret
  exact ⟨rfl, hB7⟩

set_option maxHeartbeats 4000000 in
set_option maxRecDepth 100000 in
theorem ab_f7 {p : Nat → Addr} {w : World} (hE : Errs (List.range 21) w.heap.size p w) (id iss cls mon en : Int) (l0 : -9223372036854775808 ≤ id) (u0 : id ≤ 9223372036854775807) (hv : validA id iss cls mon en = false) (k0 : decide (1 ≤ id) = true) (k1 : decide (id ≤ 32) = true) (k2 : decide (0 ≤ iss) = true) (k3 : decide (iss ≤ 32) = true) (k4 : decide (1 ≤ cls) = true) (k5 : decide (cls ≤ 6) = true) (k6 : decide (1 ≤ mon) = true) (k7 : decide (mon ≤ 6) = false) :
    Calls Tryd.prog 11 #[.int .i64 id, .int .i64 iss, .int .i64 cls, .int .i64 mon, .int .i64 en] w fun e w' => e = .returned (.bool true) ∧ Below w.heap.size w w' := by
  have hwf : (Lit.int .i64 id).wf = true := i64wf l0 u0
  have HE := Lib.hid hE; clear hE
  go_enter Tryd.func11, Tryd.ntmps11
  go_wp2_with fail
  refine (first10_calls w).mono ?_
  rintro e w1 ⟨rfl, hb1⟩
  have hs1 := hb1.size
  go_wp2_with fail
  have hA : ((w1.alloc (Obj.cells #[.int .i64 id, .int .i64 iss, .int .i64 cls, .int .i64 mon, .int .i64 en] 89)).alloc (Obj.cells #[.map none] 92)).cell? ⟨w1.heap.size + 1, 0, none⟩ = some (.map none) := by go_simp
  have hF : ((w1.alloc (Obj.cells #[.int .i64 id, .int .i64 iss, .int .i64 cls, .int .i64 mon, .int .i64 en] 89)).alloc (Obj.cells #[.map none] 92)).frozen? ⟨w1.heap.size + 1, 0, none⟩ = false := by go_simp
  have hB2 : Below w.heap.size w ((w1.alloc (Obj.cells #[.int .i64 id, .int .i64 iss, .int .i64 cls, .int .i64 mon, .int .i64 en] 89)).alloc (Obj.cells #[.map none] 92)) := by (repeat (first | exact Below.refl _ _ | assumption | refine Below.drew ?_ | refine below_many ?_ _ | refine Below.alloc ?_ (by first | (simp; done) | (simp; omega) | omega) _ | refine Below.setCell ?_ (by first | (simp; done) | (simp; omega) | omega) _))
  have hq : ∀ i u, (w1.alloc (Obj.cells #[.int .i64 id, .int .i64 iss, .int .i64 cls, .int .i64 mon, .int .i64 en] 89)).cell? ⟨w1.heap.size, i, none⟩ = some u → ((w1.alloc (Obj.cells #[.int .i64 id, .int .i64 iss, .int .i64 cls, .int .i64 mon, .int .i64 en] 89)).alloc (Obj.cells #[.map none] 92)).cell? ⟨w1.heap.size, i, none⟩ = some u := fun i u hu => (((Below.refl (w1.alloc (Obj.cells #[.int .i64 id, .int .i64 iss, .int .i64 cls, .int .i64 mon, .int .i64 en] 89)).heap.size (w1.alloc (Obj.cells #[.int .i64 id, .int .i64 iss, .int .i64 cls, .int .i64 mon, .int .i64 en] 89))).alloc (Nat.le_refl _) _).cell (p := ⟨w1.heap.size, i, none⟩) (by simp)).trans hu
  have q0 := hq 0 (.int .i64 id) (by go_simp)
  have q1 := hq 1 (.int .i64 iss) (by go_simp)
  have q2 := hq 2 (.int .i64 cls) (by go_simp)
  have q3 := hq 3 (.int .i64 mon) (by go_simp)
  have q4 := hq 4 (.int .i64 en) (by go_simp)
  obtain ⟨W, hW⟩ : ∃ W, W = ((w1.alloc (Obj.cells #[.int .i64 id, .int .i64 iss, .int .i64 cls, .int .i64 mon, .int .i64 en] 89)).alloc (Obj.cells #[.map none] 92)) := ⟨_, rfl⟩
  rw [← hW] at hA hF hB2 q0 q1 q2 q3 q4
  have hWs : w1.heap.size + 1 < W.heap.size := by rw [hW]; simp
  rw [← hW]
  clear hW hq
  refine (masterAdd_bad (HE.out.below hB2) (by decide) _ (id, iss, cls, mon, en) hv).mono ?_
  rintro e w2 ⟨rfl, hb2⟩
  rw [show ev p 2 = Value.iface 227 (.pointer (some (p 2))) from rfl]
  have hc2 := (hb2.cell (p := ⟨w1.heap.size + 1, 0, none⟩) hWs).trans hA
  have hB3 := hB2.trans (hb2.mono hB2.size)
  have hr : ∀ i u, W.cell? ⟨w1.heap.size, i, none⟩ = some u → w2.cell? ⟨w1.heap.size, i, none⟩ = some u := fun i u hu => (hb2.cell (p := ⟨w1.heap.size, i, none⟩) (show w1.heap.size < _ by omega)).trans hu
  have r0 := hr _ _ q0
  have r1 := hr _ _ q1
  have r2 := hr _ _ q2
  have r3 := hr _ _ q3
  have r4 := hr _ _ q4
  have hWs2 : w1.heap.size + 1 < w2.heap.size := Nat.lt_of_lt_of_le hWs hb2.size
  have HV := Lib.hid (validV_bad (p := p) hv)
  clear hb2 hA hF hB2 hr q0 q1 q2 q3 q4 hv
  go_wp2_with fail
  refine (masterGet_calls hc2 (.inl ⟨rfl, rfl⟩) id hwf).mono ?_
  rintro e w3 ⟨rfl, hb3⟩
  rw [show (mget ([] : Assets) id).getD zeroA = zeroA from rfl, show (mget ([] : Assets) id).isSome = false from rfl]
  have hc3 := (hb3.cell (p := ⟨w1.heap.size + 1, 0, none⟩) hWs2).trans hc2
  have hB4 := hB3.trans (hb3.mono hB3.size)
  have hr : ∀ i u, w2.cell? ⟨w1.heap.size, i, none⟩ = some u → ∀ ob : Obj, (w3.alloc ob).cell? ⟨w1.heap.size, i, none⟩ = some u := fun i u hu ob => ((hb3.trans ((Below.refl _ _).alloc hb3.size ob)).cell (p := ⟨w1.heap.size, i, none⟩) (show w1.heap.size < _ by omega)).trans hu
  have s0 := hr _ _ r0
  have s1 := hr _ _ r1
  have s2 := hr _ _ r2
  have s3 := hr _ _ r3
  have s4 := hr _ _ r4
  have hs3 := hB4.size
  have hWs3 : w1.heap.size + 1 < w3.heap.size := Nat.lt_of_lt_of_le hWs2 hb3.size
  clear hb3 hc2 hB3 hr r0 r1 r2 r3 r4
  unfold zeroA astV
  go_wp2_with fail
  refine (valid_calls (HE.out.below (show Below w.heap.size w _ by (repeat (first | exact Below.refl _ _ | assumption | refine Below.drew ?_ | refine below_many ?_ _ | refine Below.alloc ?_ (by first | (simp; done) | (simp; omega) | omega) _ | refine Below.setCell ?_ (by first | (simp; done) | (simp; omega) | omega) _)))) (by decide) id iss cls mon en).mono ?_
  rintro e w4 ⟨rfl, hb4⟩
  rw [HV.out, show ev p 2 = Value.iface 227 (.pointer (some (p 2))) from rfl]
  have hb4' : Below w3.heap.size w3 w4 := Below.trans ((Below.refl _ _).alloc (Nat.le_refl _) _) (hb4.mono (by simp))
  have hc4 := (hb4'.cell (p := ⟨w1.heap.size + 1, 0, none⟩) hWs3).trans hc3
  have hB5 := hB4.trans (hb4'.mono hs3)
  have hWs4 : w1.heap.size + 1 < w4.heap.size := Nat.lt_of_lt_of_le hWs3 hb4'.size
  clear hb4 hb4' hc3 hB4 s0 s1 s2 s3 s4
  go_wp2_with fail
  refine (is_ev (HE.out.below hB5) (k := 2) (by decide) 103).mono ?_
  rintro e w5 ⟨rfl, hb5⟩
  rw [show ((101 + ((2 : Nat) : Int)) == 103) = true from rfl]
  have hc5 := (hb5.cell (p := ⟨w1.heap.size + 1, 0, none⟩) hWs4).trans hc4
  have hB6 := hB5.trans (hb5.mono hB5.size)
  clear hb5 hc4 hB5
  go_wp2_with fail
  refine (all_calls hc5 (.inl ⟨rfl, rfl⟩) (by simp) (by simp)).mono ?_
  rintro e w6 ⟨v, rfl, hO, hb6⟩
  obtain ⟨ad, cap, rfl⟩ := hO.len
  rw [allOf_len]
  have hB7 := hB6.trans (hb6.mono hB6.size)
  clear hb6 hO hB6
  go_wp2_with fail
  go_ret
  exact ⟨rfl, hB7⟩

set_option maxHeartbeats 4000000 in
set_option maxRecDepth 100000 in
theorem ab_f8 {p : Nat → Addr} {w : World} (hE : Errs (List.range 21) w.heap.size p w) (id iss cls mon en : Int) (l0 : -9223372036854775808 ≤ id) (u0 : id ≤ 9223372036854775807) (hv : validA id iss cls mon en = false) (k0 : decide (1 ≤ id) = true) (k1 : decide (id ≤ 32) = true) (k2 : decide (0 ≤ iss) = true) (k3 : decide (iss ≤ 32) = true) (k4 : decide (1 ≤ cls) = true) (k5 : decide (cls ≤ 6) = true) (k6 : decide (1 ≤ mon) = true) (k7 : decide (mon ≤ 6) = true) (k8 : decide (0 ≤ en) = false) :
    Calls Tryd.prog 11 #[.int .i64 id, .int .i64 iss, .int .i64 cls, .int .i64 mon, .int .i64 en] w fun e w' => e = .returned (.bool true) ∧ Below w.heap.size w w' := by
  have hwf : (Lit.int .i64 id).wf = true := i64wf l0 u0
  have HE := Lib.hid hE; clear hE
  go_enter Tryd.func11, Tryd.ntmps11
  go_wp2_with fail
  refine (first10_calls w).mono ?_
  rintro e w1 ⟨rfl, hb1⟩
  have hs1 := hb1.size
  go_wp2_with fail
  have hA : ((w1.alloc (Obj.cells #[.int .i64 id, .int .i64 iss, .int .i64 cls, .int .i64 mon, .int .i64 en] 89)).alloc (Obj.cells #[.map none] 92)).cell? ⟨w1.heap.size + 1, 0, none⟩ = some (.map none) := by go_simp
  have hF : ((w1.alloc (Obj.cells #[.int .i64 id, .int .i64 iss, .int .i64 cls, .int .i64 mon, .int .i64 en] 89)).alloc (Obj.cells #[.map none] 92)).frozen? ⟨w1.heap.size + 1, 0, none⟩ = false := by go_simp
  have hB2 : Below w.heap.size w ((w1.alloc (Obj.cells #[.int .i64 id, .int .i64 iss, .int .i64 cls, .int .i64 mon, .int .i64 en] 89)).alloc (Obj.cells #[.map none] 92)) := by (repeat (first | exact Below.refl _ _ | assumption | refine Below.drew ?_ | refine below_many ?_ _ | refine Below.alloc ?_ (by first | (simp; done) | (simp; omega) | omega) _ | refine Below.setCell ?_ (by first | (simp; done) | (simp; omega) | omega) _))
  have hq : ∀ i u, (w1.alloc (Obj.cells #[.int .i64 id, .int .i64 iss, .int .i64 cls, .int .i64 mon, .int .i64 en] 89)).cell? ⟨w1.heap.size, i, none⟩ = some u → ((w1.alloc (Obj.cells #[.int .i64 id, .int .i64 iss, .int .i64 cls, .int .i64 mon, .int .i64 en] 89)).alloc (Obj.cells #[.map none] 92)).cell? ⟨w1.heap.size, i, none⟩ = some u := fun i u hu => (((Below.refl (w1.alloc (Obj.cells #[.int .i64 id, .int .i64 iss, .int .i64 cls, .int .i64 mon, .int .i64 en] 89)).heap.size (w1.alloc (Obj.cells #[.int .i64 id, .int .i64 iss, .int .i64 cls, .int .i64 mon, .int .i64 en] 89))).alloc (Nat.le_refl _) _).cell (p := ⟨w1.heap.size, i, none⟩) (by simp)).trans hu
  have q0 := hq 0 (.int .i64 id) (by go_simp)
  have q1 := hq 1 (.int .i64 iss) (by go_simp)
  have q2 := hq 2 (.int .i64 cls) (by go_simp)
  have q3 := hq 3 (.int .i64 mon) (by go_simp)
  have q4 := hq 4 (.int .i64 en) (by go_simp)
  obtain ⟨W, hW⟩ : ∃ W, W = ((w1.alloc (Obj.cells #[.int .i64 id, .int .i64 iss, .int .i64 cls, .int .i64 mon, .int .i64 en] 89)).alloc (Obj.cells #[.map none] 92)) := ⟨_, rfl⟩
  rw [← hW] at hA hF hB2 q0 q1 q2 q3 q4
  have hWs : w1.heap.size + 1 < W.heap.size := by rw [hW]; simp
  rw [← hW]
  clear hW hq
  refine (masterAdd_bad (HE.out.below hB2) (by decide) _ (id, iss, cls, mon, en) hv).mono ?_
  rintro e w2 ⟨rfl, hb2⟩
  rw [show ev p 2 = Value.iface 227 (.pointer (some (p 2))) from rfl]
  have hc2 := (hb2.cell (p := ⟨w1.heap.size + 1, 0, none⟩) hWs).trans hA
  have hB3 := hB2.trans (hb2.mono hB2.size)
  have hr : ∀ i u, W.cell? ⟨w1.heap.size, i, none⟩ = some u → w2.cell? ⟨w1.heap.size, i, none⟩ = some u := fun i u hu => (hb2.cell (p := ⟨w1.heap.size, i, none⟩) (show w1.heap.size < _ by omega)).trans hu
  have r0 := hr _ _ q0
  have r1 := hr _ _ q1
  have r2 := hr _ _ q2
  have r3 := hr _ _ q3
  have r4 := hr _ _ q4
  have hWs2 : w1.heap.size + 1 < w2.heap.size := Nat.lt_of_lt_of_le hWs hb2.size
  have HV := Lib.hid (validV_bad (p := p) hv)
  clear hb2 hA hF hB2 hr q0 q1 q2 q3 q4 hv
  go_wp2_with fail
  refine (masterGet_calls hc2 (.inl ⟨rfl, rfl⟩) id hwf).mono ?_
  rintro e w3 ⟨rfl, hb3⟩
  rw [show (mget ([] : Assets) id).getD zeroA = zeroA from rfl, show (mget ([] : Assets) id).isSome = false from rfl]
  have hc3 := (hb3.cell (p := ⟨w1.heap.size + 1, 0, none⟩) hWs2).trans hc2
  have hB4 := hB3.trans (hb3.mono hB3.size)
  have hr : ∀ i u, w2.cell? ⟨w1.heap.size, i, none⟩ = some u → ∀ ob : Obj, (w3.alloc ob).cell? ⟨w1.heap.size, i, none⟩ = some u := fun i u hu ob => ((hb3.trans ((Below.refl _ _).alloc hb3.size ob)).cell (p := ⟨w1.heap.size, i, none⟩) (show w1.heap.size < _ by omega)).trans hu
  have s0 := hr _ _ r0
  have s1 := hr _ _ r1
  have s2 := hr _ _ r2
  have s3 := hr _ _ r3
  have s4 := hr _ _ r4
  have hs3 := hB4.size
  have hWs3 : w1.heap.size + 1 < w3.heap.size := Nat.lt_of_lt_of_le hWs2 hb3.size
  clear hb3 hc2 hB3 hr r0 r1 r2 r3 r4
  unfold zeroA astV
  go_wp2_with fail
  refine (valid_calls (HE.out.below (show Below w.heap.size w _ by (repeat (first | exact Below.refl _ _ | assumption | refine Below.drew ?_ | refine below_many ?_ _ | refine Below.alloc ?_ (by first | (simp; done) | (simp; omega) | omega) _ | refine Below.setCell ?_ (by first | (simp; done) | (simp; omega) | omega) _)))) (by decide) id iss cls mon en).mono ?_
  rintro e w4 ⟨rfl, hb4⟩
  rw [HV.out, show ev p 2 = Value.iface 227 (.pointer (some (p 2))) from rfl]
  have hb4' : Below w3.heap.size w3 w4 := Below.trans ((Below.refl _ _).alloc (Nat.le_refl _) _) (hb4.mono (by simp))
  have hc4 := (hb4'.cell (p := ⟨w1.heap.size + 1, 0, none⟩) hWs3).trans hc3
  have hB5 := hB4.trans (hb4'.mono hs3)
  have hWs4 : w1.heap.size + 1 < w4.heap.size := Nat.lt_of_lt_of_le hWs3 hb4'.size
  clear hb4 hb4' hc3 hB4 s0 s1 s2 s3 s4
  go_wp2_with fail
  refine (is_ev (HE.out.below hB5) (k := 2) (by decide) 103).mono ?_
  rintro e w5 ⟨rfl, hb5⟩
  rw [show ((101 + ((2 : Nat) : Int)) == 103) = true from rfl]
  have hc5 := (hb5.cell (p := ⟨w1.heap.size + 1, 0, none⟩) hWs4).trans hc4
  have hB6 := hB5.trans (hb5.mono hB5.size)
  clear hb5 hc4 hB5
  go_wp2_with fail
  refine (all_calls hc5 (.inl ⟨rfl, rfl⟩) (by simp) (by simp)).mono ?_
  rintro e w6 ⟨v, rfl, hO, hb6⟩
  obtain ⟨ad, cap, rfl⟩ := hO.len
  rw [allOf_len]
  have hB7 := hB6.trans (hb6.mono hB6.size)
  clear hb6 hO hB6
  go_wp2_with fail
  go_ret
  exact ⟨rfl, hB7⟩

set_option maxHeartbeats 4000000 in
set_option maxRecDepth 100000 in
theorem ab_f9 {p : Nat → Addr} {w : World} (hE : Errs (List.range 21) w.heap.size p w) (id iss cls mon en : Int) (l0 : -9223372036854775808 ≤ id) (u0 : id ≤ 9223372036854775807) (hv : validA id iss cls mon en = false) (k0 : decide (1 ≤ id) = true) (k1 : decide (id ≤ 32) = true) (k2 : decide (0 ≤ iss) = true) (k3 : decide (iss ≤ 32) = true) (k4 : decide (1 ≤ cls) = true) (k5 : decide (cls ≤ 6) = true) (k6 : decide (1 ≤ mon) = true) (k7 : decide (mon ≤ 6) = true) (k8 : decide (0 ≤ en) = true) (k9 : decide (en ≤ 40000) = false) :
    Calls Tryd.prog 11 #[.int .i64 id, .int .i64 iss, .int .i64 cls, .int .i64 mon, .int .i64 en] w fun e w' => e = .returned (.bool true) ∧ Below w.heap.size w w' := by
  have hwf : (Lit.int .i64 id).wf = true := i64wf l0 u0
  have HE := Lib.hid hE; clear hE
  go_enter Tryd.func11, Tryd.ntmps11
  go_wp2_with fail
  refine (first10_calls w).mono ?_
  rintro e w1 ⟨rfl, hb1⟩
  have hs1 := hb1.size
  go_wp2_with fail
  have hA : ((w1.alloc (Obj.cells #[.int .i64 id, .int .i64 iss, .int .i64 cls, .int .i64 mon, .int .i64 en] 89)).alloc (Obj.cells #[.map none] 92)).cell? ⟨w1.heap.size + 1, 0, none⟩ = some (.map none) := by go_simp
  have hF : ((w1.alloc (Obj.cells #[.int .i64 id, .int .i64 iss, .int .i64 cls, .int .i64 mon, .int .i64 en] 89)).alloc (Obj.cells #[.map none] 92)).frozen? ⟨w1.heap.size + 1, 0, none⟩ = false := by go_simp
  have hB2 : Below w.heap.size w ((w1.alloc (Obj.cells #[.int .i64 id, .int .i64 iss, .int .i64 cls, .int .i64 mon, .int .i64 en] 89)).alloc (Obj.cells #[.map none] 92)) := by (repeat (first | exact Below.refl _ _ | assumption | refine Below.drew ?_ | refine below_many ?_ _ | refine Below.alloc ?_ (by first | (simp; done) | (simp; omega) | omega) _ | refine Below.setCell ?_ (by first | (simp; done) | (simp; omega) | omega) _))
  have hq : ∀ i u, (w1.alloc (Obj.cells #[.int .i64 id, .int .i64 iss, .int .i64 cls, .int .i64 mon, .int .i64 en] 89)).cell? ⟨w1.heap.size, i, none⟩ = some u → ((w1.alloc (Obj.cells #[.int .i64 id, .int .i64 iss, .int .i64 cls, .int .i64 mon, .int .i64 en] 89)).alloc (Obj.cells #[.map none] 92)).cell? ⟨w1.heap.size, i, none⟩ = some u := fun i u hu => (((Below.refl (w1.alloc (Obj.cells #[.int .i64 id, .int .i64 iss, .int .i64 cls, .int .i64 mon, .int .i64 en] 89)).heap.size (w1.alloc (Obj.cells #[.int .i64 id, .int .i64 iss, .int .i64 cls, .int .i64 mon, .int .i64 en] 89))).alloc (Nat.le_refl _) _).cell (p := ⟨w1.heap.size, i, none⟩) (by simp)).trans hu
  have q0 := hq 0 (.int .i64 id) (by go_simp)
  have q1 := hq 1 (.int .i64 iss) (by go_simp)
  have q2 := hq 2 (.int .i64 cls) (by go_simp)
  have q3 := hq 3 (.int .i64 mon) (by go_simp)
  have q4 := hq 4 (.int .i64 en) (by go_simp)
  obtain ⟨W, hW⟩ : ∃ W, W = ((w1.alloc (Obj.cells #[.int .i64 id, .int .i64 iss, .int .i64 cls, .int .i64 mon, .int .i64 en] 89)).alloc (Obj.cells #[.map none] 92)) := ⟨_, rfl⟩
  rw [← hW] at hA hF hB2 q0 q1 q2 q3 q4
  have hWs : w1.heap.size + 1 < W.heap.size := by rw [hW]; simp
  rw [← hW]
  clear hW hq
  refine (masterAdd_bad (HE.out.below hB2) (by decide) _ (id, iss, cls, mon, en) hv).mono ?_
  rintro e w2 ⟨rfl, hb2⟩
  rw [show ev p 2 = Value.iface 227 (.pointer (some (p 2))) from rfl]
  have hc2 := (hb2.cell (p := ⟨w1.heap.size + 1, 0, none⟩) hWs).trans hA
  have hB3 := hB2.trans (hb2.mono hB2.size)
  have hr : ∀ i u, W.cell? ⟨w1.heap.size, i, none⟩ = some u → w2.cell? ⟨w1.heap.size, i, none⟩ = some u := fun i u hu => (hb2.cell (p := ⟨w1.heap.size, i, none⟩) (show w1.heap.size < _ by omega)).trans hu
  have r0 := hr _ _ q0
  have r1 := hr _ _ q1
  have r2 := hr _ _ q2
  have r3 := hr _ _ q3
  have r4 := hr _ _ q4
  have hWs2 : w1.heap.size + 1 < w2.heap.size := Nat.lt_of_lt_of_le hWs hb2.size
  have HV := Lib.hid (validV_bad (p := p) hv)
  clear hb2 hA hF hB2 hr q0 q1 q2 q3 q4 hv
  go_wp2_with fail
  refine (masterGet_calls hc2 (.inl ⟨rfl, rfl⟩) id hwf).mono ?_
  rintro e w3 ⟨rfl, hb3⟩
  rw [show (mget ([] : Assets) id).getD zeroA = zeroA from rfl, show (mget ([] : Assets) id).isSome = false from rfl]
  have hc3 := (hb3.cell (p := ⟨w1.heap.size + 1, 0, none⟩) hWs2).trans hc2
  have hB4 := hB3.trans (hb3.mono hB3.size)
  have hr : ∀ i u, w2.cell? ⟨w1.heap.size, i, none⟩ = some u → ∀ ob : Obj, (w3.alloc ob).cell? ⟨w1.heap.size, i, none⟩ = some u := fun i u hu ob => ((hb3.trans ((Below.refl _ _).alloc hb3.size ob)).cell (p := ⟨w1.heap.size, i, none⟩) (show w1.heap.size < _ by omega)).trans hu
  have s0 := hr _ _ r0
  have s1 := hr _ _ r1
  have s2 := hr _ _ r2
  have s3 := hr _ _ r3
  have s4 := hr _ _ r4
  have hs3 := hB4.size
  have hWs3 : w1.heap.size + 1 < w3.heap.size := Nat.lt_of_lt_of_le hWs2 hb3.size
  clear hb3 hc2 hB3 hr r0 r1 r2 r3 r4
  unfold zeroA astV
  go_wp2_with fail
  refine (valid_calls (HE.out.below (show Below w.heap.size w _ by (repeat (first | exact Below.refl _ _ | assumption | refine Below.drew ?_ | refine below_many ?_ _ | refine Below.alloc ?_ (by first | (simp; done) | (simp; omega) | omega) _ | refine Below.setCell ?_ (by first | (simp; done) | (simp; omega) | omega) _)))) (by decide) id iss cls mon en).mono ?_
  rintro e w4 ⟨rfl, hb4⟩
  rw [HV.out, show ev p 2 = Value.iface 227 (.pointer (some (p 2))) from rfl]
  have hb4' : Below w3.heap.size w3 w4 := Below.trans ((Below.refl _ _).alloc (Nat.le_refl _) _) (hb4.mono (by simp))
  have hc4 := (hb4'.cell (p := ⟨w1.heap.size + 1, 0, none⟩) hWs3).trans hc3
  have hB5 := hB4.trans (hb4'.mono hs3)
  have hWs4 : w1.heap.size + 1 < w4.heap.size := Nat.lt_of_lt_of_le hWs3 hb4'.size
  clear hb4 hb4' hc3 hB4 s0 s1 s2 s3 s4
  go_wp2_with fail
  refine (is_ev (HE.out.below hB5) (k := 2) (by decide) 103).mono ?_
  rintro e w5 ⟨rfl, hb5⟩
  rw [show ((101 + ((2 : Nat) : Int)) == 103) = true from rfl]
  have hc5 := (hb5.cell (p := ⟨w1.heap.size + 1, 0, none⟩) hWs4).trans hc4
  have hB6 := hB5.trans (hb5.mono hB5.size)
  clear hb5 hc4 hB5
  go_wp2_with fail
  refine (all_calls hc5 (.inl ⟨rfl, rfl⟩) (by simp) (by simp)).mono ?_
  rintro e w6 ⟨v, rfl, hO, hb6⟩
  obtain ⟨ad, cap, rfl⟩ := hO.len
  rw [allOf_len]
  have hB7 := hB6.trans (hb6.mono hB6.size)
  clear hb6 hO hB6
  go_wp2_with fail
  go_ret
  exact ⟨rfl, hB7⟩

set_option maxHeartbeats 4000000 in
set_option maxRecDepth 100000 in
theorem ab_fc1 {p : Nat → Addr} {w : World} (hE : Errs (List.range 21) w.heap.size p w) (id iss cls mon en : Int) (l0 : -9223372036854775808 ≤ id) (u0 : id ≤ 9223372036854775807) (hv : validA id iss cls mon en = false) (k0 : decide (1 ≤ id) = true) (k1 : decide (id ≤ 32) = true) (k2 : decide (0 ≤ iss) = true) (k3 : decide (iss ≤ 32) = true) (k4 : decide (1 ≤ cls) = true) (k5 : decide (cls ≤ 6) = true) (k6 : decide (1 ≤ mon) = true) (k7 : decide (mon ≤ 6) = true) (k8 : decide (0 ≤ en) = true) (k9 : decide (en ≤ 40000) = true) (k10 : decide (1 < cls) = false) (k11 : (iss == 0) = false) :
    Calls Tryd.prog 11 #[.int .i64 id, .int .i64 iss, .int .i64 cls, .int .i64 mon, .int .i64 en] w fun e w' => e = .returned (.bool true) ∧ Below w.heap.size w w' := by
  have hwf : (Lit.int .i64 id).wf = true := i64wf l0 u0
  have HE := Lib.hid hE; clear hE
  go_enter Tryd.func11, Tryd.ntmps11
  go_wp2_with fail
  refine (first10_calls w).mono ?_
  rintro e w1 ⟨rfl, hb1⟩
  have hs1 := hb1.size
  go_wp2_with fail
  have hA : ((w1.alloc (Obj.cells #[.int .i64 id, .int .i64 iss, .int .i64 cls, .int .i64 mon, .int .i64 en] 89)).alloc (Obj.cells #[.map none] 92)).cell? ⟨w1.heap.size + 1, 0, none⟩ = some (.map none) := by go_simp
  have hF : ((w1.alloc (Obj.cells #[.int .i64 id, .int .i64 iss, .int .i64 cls, .int .i64 mon, .int .i64 en] 89)).alloc (Obj.cells #[.map none] 92)).frozen? ⟨w1.heap.size + 1, 0, none⟩ = false := by go_simp
  have hB2 : Below w.heap.size w ((w1.alloc (Obj.cells #[.int .i64 id, .int .i64 iss, .int .i64 cls, .int .i64 mon, .int .i64 en] 89)).alloc (Obj.cells #[.map none] 92)) := by (repeat (first | exact Below.refl _ _ | assumption | refine Below.drew ?_ | refine below_many ?_ _ | refine Below.alloc ?_ (by first | (simp; done) | (simp; omega) | omega) _ | refine Below.setCell ?_ (by first | (simp; done) | (simp; omega) | omega) _))
  have hq : ∀ i u, (w1.alloc (Obj.cells #[.int .i64 id, .int .i64 iss, .int .i64 cls, .int .i64 mon, .int .i64 en] 89)).cell? ⟨w1.heap.size, i, none⟩ = some u → ((w1.alloc (Obj.cells #[.int .i64 id, .int .i64 iss, .int .i64 cls, .int .i64 mon, .int .i64 en] 89)).alloc (Obj.cells #[.map none] 92)).cell? ⟨w1.heap.size, i, none⟩ = some u := fun i u hu => (((Below.refl (w1.alloc (Obj.cells #[.int .i64 id, .int .i64 iss, .int .i64 cls, .int .i64 mon, .int .i64 en] 89)).heap.size (w1.alloc (Obj.cells #[.int .i64 id, .int .i64 iss, .int .i64 cls, .int .i64 mon, .int .i64 en] 89))).alloc (Nat.le_refl _) _).cell (p := ⟨w1.heap.size, i, none⟩) (by simp)).trans hu
  have q0 := hq 0 (.int .i64 id) (by go_simp)
  have q1 := hq 1 (.int .i64 iss) (by go_simp)
  have q2 := hq 2 (.int .i64 cls) (by go_simp)
  have q3 := hq 3 (.int .i64 mon) (by go_simp)
  have q4 := hq 4 (.int .i64 en) (by go_simp)
  obtain ⟨W, hW⟩ : ∃ W, W = ((w1.alloc (Obj.cells #[.int .i64 id, .int .i64 iss, .int .i64 cls, .int .i64 mon, .int .i64 en] 89)).alloc (Obj.cells #[.map none] 92)) := ⟨_, rfl⟩
  rw [← hW] at hA hF hB2 q0 q1 q2 q3 q4
  have hWs : w1.heap.size + 1 < W.heap.size := by rw [hW]; simp
  rw [← hW]
  clear hW hq
  refine (masterAdd_bad (HE.out.below hB2) (by decide) _ (id, iss, cls, mon, en) hv).mono ?_
  rintro e w2 ⟨rfl, hb2⟩
  rw [show ev p 2 = Value.iface 227 (.pointer (some (p 2))) from rfl]
  have hc2 := (hb2.cell (p := ⟨w1.heap.size + 1, 0, none⟩) hWs).trans hA
  have hB3 := hB2.trans (hb2.mono hB2.size)
  have hr : ∀ i u, W.cell? ⟨w1.heap.size, i, none⟩ = some u → w2.cell? ⟨w1.heap.size, i, none⟩ = some u := fun i u hu => (hb2.cell (p := ⟨w1.heap.size, i, none⟩) (show w1.heap.size < _ by omega)).trans hu
  have r0 := hr _ _ q0
  have r1 := hr _ _ q1
  have r2 := hr _ _ q2
  have r3 := hr _ _ q3
  have r4 := hr _ _ q4
  have hWs2 : w1.heap.size + 1 < w2.heap.size := Nat.lt_of_lt_of_le hWs hb2.size
  have HV := Lib.hid (validV_bad (p := p) hv)
  clear hb2 hA hF hB2 hr q0 q1 q2 q3 q4 hv
  go_wp2_with fail
  refine (masterGet_calls hc2 (.inl ⟨rfl, rfl⟩) id hwf).mono ?_
  rintro e w3 ⟨rfl, hb3⟩
  rw [show (mget ([] : Assets) id).getD zeroA = zeroA from rfl, show (mget ([] : Assets) id).isSome = false from rfl]
  have hc3 := (hb3.cell (p := ⟨w1.heap.size + 1, 0, none⟩) hWs2).trans hc2
  have hB4 := hB3.trans (hb3.mono hB3.size)
  have hr : ∀ i u, w2.cell? ⟨w1.heap.size, i, none⟩ = some u → ∀ ob : Obj, (w3.alloc ob).cell? ⟨w1.heap.size, i, none⟩ = some u := fun i u hu ob => ((hb3.trans ((Below.refl _ _).alloc hb3.size ob)).cell (p := ⟨w1.heap.size, i, none⟩) (show w1.heap.size < _ by omega)).trans hu
  have s0 := hr _ _ r0
  have s1 := hr _ _ r1
  have s2 := hr _ _ r2
  have s3 := hr _ _ r3
  have s4 := hr _ _ r4
  have hs3 := hB4.size
  have hWs3 : w1.heap.size + 1 < w3.heap.size := Nat.lt_of_lt_of_le hWs2 hb3.size
  clear hb3 hc2 hB3 hr r0 r1 r2 r3 r4
  unfold zeroA astV
  go_wp2_with fail
  refine (valid_calls (HE.out.below (show Below w.heap.size w _ by (repeat (first | exact Below.refl _ _ | assumption | refine Below.drew ?_ | refine below_many ?_ _ | refine Below.alloc ?_ (by first | (simp; done) | (simp; omega) | omega) _ | refine Below.setCell ?_ (by first | (simp; done) | (simp; omega) | omega) _)))) (by decide) id iss cls mon en).mono ?_
  rintro e w4 ⟨rfl, hb4⟩
  rw [HV.out, show ev p 2 = Value.iface 227 (.pointer (some (p 2))) from rfl]
  have hb4' : Below w3.heap.size w3 w4 := Below.trans ((Below.refl _ _).alloc (Nat.le_refl _) _) (hb4.mono (by simp))
  have hc4 := (hb4'.cell (p := ⟨w1.heap.size + 1, 0, none⟩) hWs3).trans hc3
  have hB5 := hB4.trans (hb4'.mono hs3)
  have hWs4 : w1.heap.size + 1 < w4.heap.size := Nat.lt_of_lt_of_le hWs3 hb4'.size
  clear hb4 hb4' hc3 hB4 s0 s1 s2 s3 s4
  go_wp2_with fail
  refine (is_ev (HE.out.below hB5) (k := 2) (by decide) 103).mono ?_
  rintro e w5 ⟨rfl, hb5⟩
  rw [show ((101 + ((2 : Nat) : Int)) == 103) = true from rfl]
  have hc5 := (hb5.cell (p := ⟨w1.heap.size + 1, 0, none⟩) hWs4).trans hc4
  have hB6 := hB5.trans (hb5.mono hB5.size)
  clear hb5 hc4 hB5
  go_wp2_with fail
  refine (all_calls hc5 (.inl ⟨rfl, rfl⟩) (by simp) (by simp)).mono ?_
  rintro e w6 ⟨v, rfl, hO, hb6⟩
  obtain ⟨ad, cap, rfl⟩ := hO.len
  rw [allOf_len]
  have hB7 := hB6.trans (hb6.mono hB6.size)
  clear hb6 hO hB6
  go_wp2_with fail
  go_ret
  exact ⟨rfl, hB7⟩

set_option maxHeartbeats 4000000 in
set_option maxRecDepth 100000 in
theorem ab_fc2 {p : Nat → Addr} {w : World} (hE : Errs (List.range 21) w.heap.size p w) (id iss cls mon en : Int) (l0 : -9223372036854775808 ≤ id) (u0 : id ≤ 9223372036854775807) (hv : validA id iss cls mon en = false) (k0 : decide (1 ≤ id) = true) (k1 : decide (id ≤ 32) = true) (k2 : decide (0 ≤ iss) = true) (k3 : decide (iss ≤ 32) = true) (k4 : decide (1 ≤ cls) = true) (k5 : decide (cls ≤ 6) = true) (k6 : decide (1 ≤ mon) = true) (k7 : decide (mon ≤ 6) = true) (k8 : decide (0 ≤ en) = true) (k9 : decide (en ≤ 40000) = true) (k10 : decide (1 < cls) = false) (k11 : (iss == 0) = true) (k12 : (en == 0) = false) :
    Calls Tryd.prog 11 #[.int .i64 id, .int .i64 iss, .int .i64 cls, .int .i64 mon, .int .i64 en] w fun e w' => e = .returned (.bool true) ∧ Below w.heap.size w w' := by
  have hwf : (Lit.int .i64 id).wf = true := i64wf l0 u0
  have HE := Lib.hid hE; clear hE
  go_enter Tryd.func11, Tryd.ntmps11
  go_wp2_with fail
  refine (first10_calls w).mono ?_
  rintro e w1 ⟨rfl, hb1⟩
  have hs1 := hb1.size
  go_wp2_with fail
  have hA : ((w1.alloc (Obj.cells #[.int .i64 id, .int .i64 iss, .int .i64 cls, .int .i64 mon, .int .i64 en] 89)).alloc (Obj.cells #[.map none] 92)).cell? ⟨w1.heap.size + 1, 0, none⟩ = some (.map none) := by go_simp
  have hF : ((w1.alloc (Obj.cells #[.int .i64 id, .int .i64 iss, .int .i64 cls, .int .i64 mon, .int .i64 en] 89)).alloc (Obj.cells #[.map none] 92)).frozen? ⟨w1.heap.size + 1, 0, none⟩ = false := by go_simp
  have hB2 : Below w.heap.size w ((w1.alloc (Obj.cells #[.int .i64 id, .int .i64 iss, .int .i64 cls, .int .i64 mon, .int .i64 en] 89)).alloc (Obj.cells #[.map none] 92)) := by (repeat (first | exact Below.refl _ _ | assumption | refine Below.drew ?_ | refine below_many ?_ _ | refine Below.alloc ?_ (by first | (simp; done) | (simp; omega) | omega) _ | refine Below.setCell ?_ (by first | (simp; done) | (simp; omega) | omega) _))
  have hq : ∀ i u, (w1.alloc (Obj.cells #[.int .i64 id, .int .i64 iss, .int .i64 cls, .int .i64 mon, .int .i64 en] 89)).cell? ⟨w1.heap.size, i, none⟩ = some u → ((w1.alloc (Obj.cells #[.int .i64 id, .int .i64 iss, .int .i64 cls, .int .i64 mon, .int .i64 en] 89)).alloc (Obj.cells #[.map none] 92)).cell? ⟨w1.heap.size, i, none⟩ = some u := fun i u hu => (((Below.refl (w1.alloc (Obj.cells #[.int .i64 id, .int .i64 iss, .int .i64 cls, .int .i64 mon, .int .i64 en] 89)).heap.size (w1.alloc (Obj.cells #[.int .i64 id, .int .i64 iss, .int .i64 cls, .int .i64 mon, .int .i64 en] 89))).alloc (Nat.le_refl _) _).cell (p := ⟨w1.heap.size, i, none⟩) (by simp)).trans hu
  have q0 := hq 0 (.int .i64 id) (by go_simp)
  have q1 := hq 1 (.int .i64 iss) (by go_simp)
  have q2 := hq 2 (.int .i64 cls) (by go_simp)
  have q3 := hq 3 (.int .i64 mon) (by go_simp)
  have q4 := hq 4 (.int .i64 en) (by go_simp)
  obtain ⟨W, hW⟩ : ∃ W, W = ((w1.alloc (Obj.cells #[.int .i64 id, .int .i64 iss, .int .i64 cls, .int .i64 mon, .int .i64 en] 89)).alloc (Obj.cells #[.map none] 92)) := ⟨_, rfl⟩
  rw [← hW] at hA hF hB2 q0 q1 q2 q3 q4
  have hWs : w1.heap.size + 1 < W.heap.size := by rw [hW]; simp
  rw [← hW]
  clear hW hq
  refine (masterAdd_bad (HE.out.below hB2) (by decide) _ (id, iss, cls, mon, en) hv).mono ?_
  rintro e w2 ⟨rfl, hb2⟩
  rw [show ev p 2 = Value.iface 227 (.pointer (some (p 2))) from rfl]
  have hc2 := (hb2.cell (p := ⟨w1.heap.size + 1, 0, none⟩) hWs).trans hA
  have hB3 := hB2.trans (hb2.mono hB2.size)
  have hr : ∀ i u, W.cell? ⟨w1.heap.size, i, none⟩ = some u → w2.cell? ⟨w1.heap.size, i, none⟩ = some u := fun i u hu => (hb2.cell (p := ⟨w1.heap.size, i, none⟩) (show w1.heap.size < _ by omega)).trans hu
  have r0 := hr _ _ q0
  have r1 := hr _ _ q1
  have r2 := hr _ _ q2
  have r3 := hr _ _ q3
  have r4 := hr _ _ q4
  have hWs2 : w1.heap.size + 1 < w2.heap.size := Nat.lt_of_lt_of_le hWs hb2.size
  have HV := Lib.hid (validV_bad (p := p) hv)
  clear hb2 hA hF hB2 hr q0 q1 q2 q3 q4 hv
  go_wp2_with fail
  refine (masterGet_calls hc2 (.inl ⟨rfl, rfl⟩) id hwf).mono ?_
  rintro e w3 ⟨rfl, hb3⟩
  rw [show (mget ([] : Assets) id).getD zeroA = zeroA from rfl, show (mget ([] : Assets) id).isSome = false from rfl]
  have hc3 := (hb3.cell (p := ⟨w1.heap.size + 1, 0, none⟩) hWs2).trans hc2
  have hB4 := hB3.trans (hb3.mono hB3.size)
  have hr : ∀ i u, w2.cell? ⟨w1.heap.size, i, none⟩ = some u → ∀ ob : Obj, (w3.alloc ob).cell? ⟨w1.heap.size, i, none⟩ = some u := fun i u hu ob => ((hb3.trans ((Below.refl _ _).alloc hb3.size ob)).cell (p := ⟨w1.heap.size, i, none⟩) (show w1.heap.size < _ by omega)).trans hu
  have s0 := hr _ _ r0
  have s1 := hr _ _ r1
  have s2 := hr _ _ r2
  have s3 := hr _ _ r3
  have s4 := hr _ _ r4
  have hs3 := hB4.size
  have hWs3 : w1.heap.size + 1 < w3.heap.size := Nat.lt_of_lt_of_le hWs2 hb3.size
  clear hb3 hc2 hB3 hr r0 r1 r2 r3 r4
  unfold zeroA astV
  go_wp2_with fail
  refine (valid_calls (HE.out.below (show Below w.heap.size w _ by (repeat (first | exact Below.refl _ _ | assumption | refine Below.drew ?_ | refine below_many ?_ _ | refine Below.alloc ?_ (by first | (simp; done) | (simp; omega) | omega) _ | refine Below.setCell ?_ (by first | (simp; done) | (simp; omega) | omega) _)))) (by decide) id iss cls mon en).mono ?_
  rintro e w4 ⟨rfl, hb4⟩
  rw [HV.out, show ev p 2 = Value.iface 227 (.pointer (some (p 2))) from rfl]
  have hb4' : Below w3.heap.size w3 w4 := Below.trans ((Below.refl _ _).alloc (Nat.le_refl _) _) (hb4.mono (by simp))
  have hc4 := (hb4'.cell (p := ⟨w1.heap.size + 1, 0, none⟩) hWs3).trans hc3
  have hB5 := hB4.trans (hb4'.mono hs3)
  have hWs4 : w1.heap.size + 1 < w4.heap.size := Nat.lt_of_lt_of_le hWs3 hb4'.size
  clear hb4 hb4' hc3 hB4 s0 s1 s2 s3 s4
  go_wp2_with fail
  refine (is_ev (HE.out.below hB5) (k := 2) (by decide) 103).mono ?_
  rintro e w5 ⟨rfl, hb5⟩
  rw [show ((101 + ((2 : Nat) : Int)) == 103) = true from rfl]
  have hc5 := (hb5.cell (p := ⟨w1.heap.size + 1, 0, none⟩) hWs4).trans hc4
  have hB6 := hB5.trans (hb5.mono hB5.size)
  clear hb5 hc4 hB5
  go_wp2_with fail
  refine (all_calls hc5 (.inl ⟨rfl, rfl⟩) (by simp) (by simp)).mono ?_
  rintro e w6 ⟨v, rfl, hO, hb6⟩
  obtain ⟨ad, cap, rfl⟩ := hO.len
  rw [allOf_len]
  have hB7 := hB6.trans (hb6.mono hB6.size)
  clear hb6 hO hB6
  go_wp2_with fail
  go_ret
  exact ⟨rfl, hB7⟩

set_option maxHeartbeats 4000000 in
set_option maxRecDepth 100000 in
theorem ab_t1 {p : Nat → Addr} {w : World} (hE : Errs (List.range 21) w.heap.size p w) (id iss cls mon en : Int) (l0 : -9223372036854775808 ≤ id) (u0 : id ≤ 9223372036854775807) (hv : validA id iss cls mon en = true) (k0 : decide (1 ≤ id) = true) (k1 : decide (id ≤ 32) = true) (k2 : decide (0 ≤ iss) = true) (k3 : decide (iss ≤ 32) = true) (k4 : decide (1 ≤ cls) = true) (k5 : decide (cls ≤ 6) = true) (k6 : decide (1 ≤ mon) = true) (k7 : decide (mon ≤ 6) = true) (k8 : decide (0 ≤ en) = true) (k9 : decide (en ≤ 40000) = true) (k10 : decide (1 < cls) = true) :
    Calls Tryd.prog 11 #[.int .i64 id, .int .i64 iss, .int .i64 cls, .int .i64 mon, .int .i64 en] w fun e w' => e = .returned (.bool true) ∧ Below w.heap.size w w' := by
  have hwf : (Lit.int .i64 id).wf = true := i64wf l0 u0
  have HE := Lib.hid hE; clear hE
  go_enter Tryd.func11, Tryd.ntmps11
  go_wp2_with fail
  refine (first10_calls w).mono ?_
  rintro e w1 ⟨rfl, hb1⟩
  have hs1 := hb1.size
  go_wp2_with fail
  have hA : ((w1.alloc (Obj.cells #[.int .i64 id, .int .i64 iss, .int .i64 cls, .int .i64 mon, .int .i64 en] 89)).alloc (Obj.cells #[.map none] 92)).cell? ⟨w1.heap.size + 1, 0, none⟩ = some (.map none) := by go_simp
  have hF : ((w1.alloc (Obj.cells #[.int .i64 id, .int .i64 iss, .int .i64 cls, .int .i64 mon, .int .i64 en] 89)).alloc (Obj.cells #[.map none] 92)).frozen? ⟨w1.heap.size + 1, 0, none⟩ = false := by go_simp
  have hB2 : Below w.heap.size w ((w1.alloc (Obj.cells #[.int .i64 id, .int .i64 iss, .int .i64 cls, .int .i64 mon, .int .i64 en] 89)).alloc (Obj.cells #[.map none] 92)) := by (repeat (first | exact Below.refl _ _ | assumption | refine Below.drew ?_ | refine below_many ?_ _ | refine Below.alloc ?_ (by first | (simp; done) | (simp; omega) | omega) _ | refine Below.setCell ?_ (by first | (simp; done) | (simp; omega) | omega) _))
  have hq : ∀ i u, (w1.alloc (Obj.cells #[.int .i64 id, .int .i64 iss, .int .i64 cls, .int .i64 mon, .int .i64 en] 89)).cell? ⟨w1.heap.size, i, none⟩ = some u → ((w1.alloc (Obj.cells #[.int .i64 id, .int .i64 iss, .int .i64 cls, .int .i64 mon, .int .i64 en] 89)).alloc (Obj.cells #[.map none] 92)).cell? ⟨w1.heap.size, i, none⟩ = some u := fun i u hu => (((Below.refl (w1.alloc (Obj.cells #[.int .i64 id, .int .i64 iss, .int .i64 cls, .int .i64 mon, .int .i64 en] 89)).heap.size (w1.alloc (Obj.cells #[.int .i64 id, .int .i64 iss, .int .i64 cls, .int .i64 mon, .int .i64 en] 89))).alloc (Nat.le_refl _) _).cell (p := ⟨w1.heap.size, i, none⟩) (by simp)).trans hu
  have q0 := hq 0 (.int .i64 id) (by go_simp)
  have q1 := hq 1 (.int .i64 iss) (by go_simp)
  have q2 := hq 2 (.int .i64 cls) (by go_simp)
  have q3 := hq 3 (.int .i64 mon) (by go_simp)
  have q4 := hq 4 (.int .i64 en) (by go_simp)
  obtain ⟨W, hW⟩ : ∃ W, W = ((w1.alloc (Obj.cells #[.int .i64 id, .int .i64 iss, .int .i64 cls, .int .i64 mon, .int .i64 en] 89)).alloc (Obj.cells #[.map none] 92)) := ⟨_, rfl⟩
  rw [← hW] at hA hF hB2 q0 q1 q2 q3 q4
  have hWs : w1.heap.size + 1 < W.heap.size := by rw [hW]; simp
  rw [← hW]
  clear hW hq
  refine (masterAdd_none (HE.out.below hB2) (by decide) hA hF (.inl ⟨rfl, rfl⟩) (id, iss, cls, mon, en) hv).mono ?_
  rintro e w2 ⟨rfl, nb, hm2, hc2, hf2, hn2, hk2⟩
  have hB3 : Below w.heap.size w w2 := hB2.trans (hk2.below hB2.size (fun x hx e => by omega))
  have hr : ∀ i u, W.cell? ⟨w1.heap.size, i, none⟩ = some u → w2.cell? ⟨w1.heap.size, i, none⟩ = some u := fun i u hu => (hk2.cell (x := ⟨w1.heap.size, i, none⟩) (show w1.heap.size < _ by omega) (by simp only; omega)).trans hu
  have r0 := hr _ _ q0
  have r1 := hr _ _ q1
  have r2 := hr _ _ q2
  have r3 := hr _ _ q3
  have r4 := hr _ _ q4
  have hWs2 : w1.heap.size + 1 < w2.heap.size := Nat.lt_of_lt_of_le hWs hk2.size
  have HV := Lib.hid (validV_ok (p := p) hv)
  have HVt := Lib.hid hv
  have HM := Lib.hid hm2
  have hgm : mget [(id, ((id, iss, cls, mon, en) : AS))] id = some (id, iss, cls, mon, en) := by simp [mget]
  have HG := Lib.hid hgm
  clear hk2 hA hF hB2 hr q0 q1 q2 q3 q4 hm2 hv hgm
  go_wp2_with fail
  refine (masterGet_calls hc2 HM.out id hwf).mono ?_
  rintro e w3 ⟨rfl, hb3⟩
  rw [HG.out]
  simp only [Option.getD_some, Option.isSome_some]
  have hc3 := (hb3.cell (p := ⟨w1.heap.size + 1, 0, none⟩) hWs2).trans hc2
  have hB4 := hB3.trans (hb3.mono hB3.size)
  have HM3 := Lib.hid (HM.out.below hb3)
  have hr : ∀ i u, w2.cell? ⟨w1.heap.size, i, none⟩ = some u → ∀ ob : Obj, (w3.alloc ob).cell? ⟨w1.heap.size, i, none⟩ = some u := fun i u hu ob => ((hb3.trans ((Below.refl _ _).alloc hb3.size ob)).cell (p := ⟨w1.heap.size, i, none⟩) (show w1.heap.size < _ by omega)).trans hu
  have s0 := hr _ _ r0
  have s1 := hr _ _ r1
  have s2 := hr _ _ r2
  have s3 := hr _ _ r3
  have s4 := hr _ _ r4
  have hs3 := hB4.size
  have hWs3 : w1.heap.size + 1 < w3.heap.size := Nat.lt_of_lt_of_le hWs2 hb3.size
  clear hb3 hc2 hB3 hr r0 r1 r2 r3 r4 HM HG hf2 hn2
  go_wp2_with fail
  refine (valid_calls (HE.out.below (show Below w.heap.size w _ by (repeat (first | exact Below.refl _ _ | assumption | refine Below.drew ?_ | refine below_many ?_ _ | refine Below.alloc ?_ (by first | (simp; done) | (simp; omega) | omega) _ | refine Below.setCell ?_ (by first | (simp; done) | (simp; omega) | omega) _)))) (by decide) id iss cls mon en).mono ?_
  rintro e w4 ⟨rfl, hb4⟩
  rw [HV.out]
  have hb4' : Below w3.heap.size w3 w4 := Below.trans ((Below.refl _ _).alloc (Nat.le_refl _) _) (hb4.mono (by simp))
  have hc4 := (hb4'.cell (p := ⟨w1.heap.size + 1, 0, none⟩) hWs3).trans hc3
  have hB5 := hB4.trans (hb4'.mono hs3)
  have HM4 := Lib.hid (HM3.out.below hb4')
  have hWs4 : w1.heap.size + 1 < w4.heap.size := Nat.lt_of_lt_of_le hWs3 hb4'.size
  have hu : ∀ x u, (w3.alloc (Obj.cells #[.int .i64 id, .int .i64 iss, .int .i64 cls, .int .i64 mon, .int .i64 en] 89)).cell? x = some u → w4.cell? x = some u := fun x u hu => (hb4.cell (World.block_lt_of_cell? _ _ hu)).trans hu
  have t0 := hu _ _ (s0 _)
  have t1 := hu _ _ (s1 _)
  have t2 := hu _ _ (s2 _)
  have t3 := hu _ _ (s3 _)
  have t4 := hu _ _ (s4 _)
  have v0 := hu ⟨w3.heap.size, 0, none⟩ (.int .i64 id) (by go_simp)
  have v1 := hu ⟨w3.heap.size, 1, none⟩ (.int .i64 iss) (by go_simp)
  have v2 := hu ⟨w3.heap.size, 2, none⟩ (.int .i64 cls) (by go_simp)
  have v3 := hu ⟨w3.heap.size, 3, none⟩ (.int .i64 mon) (by go_simp)
  have v4 := hu ⟨w3.heap.size, 4, none⟩ (.int .i64 en) (by go_simp)
  clear hb4 hb4' hc3 hB4 s0 s1 s2 s3 s4 hu HM3
  go_wp2_with fail
  refine (sameAsset_self id iss cls mon en w4).mono ?_
  rintro e w5 ⟨rfl, hb5⟩
  have hc5 := (hb5.cell (p := ⟨w1.heap.size + 1, 0, none⟩) hWs4).trans hc4
  have hB6 := hB5.trans (hb5.mono hB5.size)
  have HM5 := Lib.hid (HM4.out.below hb5)
  have hu : ∀ i u, w4.cell? ⟨w1.heap.size, i, none⟩ = some u → w5.cell? ⟨w1.heap.size, i, none⟩ = some u := fun i u hu => (hb5.cell (p := ⟨w1.heap.size, i, none⟩) (show w1.heap.size < _ by omega)).trans hu
  have s0 := hu _ _ t0
  have s1 := hu _ _ t1
  have s2 := hu _ _ t2
  have s3 := hu _ _ t3
  have s4 := hu _ _ t4
  have hWs5 : w1.heap.size + 1 < w5.heap.size := Nat.lt_of_lt_of_le hWs4 hb5.size
  clear hb5 hc4 hB5 hu t0 t1 t2 t3 t4 v0 v1 v2 v3 v4 HM4
  go_wp2_with fail
  refine (all_calls hc5 HM5.out (by simp) (by simp [hwf])).mono ?_
  rintro e w6 ⟨v, rfl, hO, hb6⟩
  obtain ⟨ad, cap, rfl⟩ := hO.len
  rw [allOf_len]
  have hc6 := (hb6.cell (p := ⟨w1.heap.size + 1, 0, none⟩) hWs5).trans hc5
  have hB7 := hB6.trans (hb6.mono hB6.size)
  have HM6 := Lib.hid (HM5.out.below hb6)
  have hu : ∀ i u, w5.cell? ⟨w1.heap.size, i, none⟩ = some u → w6.cell? ⟨w1.heap.size, i, none⟩ = some u := fun i u hu => (hb6.cell (p := ⟨w1.heap.size, i, none⟩) (show w1.heap.size < _ by omega)).trans hu
  have t0 := hu _ _ s0
  have t1 := hu _ _ s1
  have t2 := hu _ _ s2
  have t3 := hu _ _ s3
  have t4 := hu _ _ s4
  clear hb6 hO hB6 hu s0 s1 s2 s3 s4 HM5 hc5
  go_wp2_with fail
  refine (masterAdd_there (HE.out.below hB7) (by decide) (by decide) hc6 HM6.out (id, iss, cls, mon, en) HVt.out (by simp [mget])).mono ?_
  rintro e w7 ⟨rfl, hb7⟩
  have hB8 := hB7.trans (hb7.mono hB7.size)
  clear hb7 hB7
  go_wp2_with fail
  refine (is_ev (HE.out.below hB8) (k := 6) (by decide) 107).mono ?_
  rintro e w8 ⟨rfl, hb8⟩
  rw [show ((101 + ((6 : Nat) : Int)) == 107) = true from rfl]
  have hB9 := hB8.trans (hb8.mono hB8.size)
  clear hb8 hB8
  go_wp2_with fail
  go_ret
  exact ⟨rfl, hB9⟩

set_option maxHeartbeats 4000000 in
set_option maxRecDepth 100000 in
theorem ab_t2 {p : Nat → Addr} {w : World} (hE : Errs (List.range 21) w.heap.size p w) (id iss cls mon en : Int) (l0 : -9223372036854775808 ≤ id) (u0 : id ≤ 9223372036854775807) (hv : validA id iss cls mon en = true) (k0 : decide (1 ≤ id) = true) (k1 : decide (id ≤ 32) = true) (k2 : decide (0 ≤ iss) = true) (k3 : decide (iss ≤ 32) = true) (k4 : decide (1 ≤ cls) = true) (k5 : decide (cls ≤ 6) = true) (k6 : decide (1 ≤ mon) = true) (k7 : decide (mon ≤ 6) = true) (k8 : decide (0 ≤ en) = true) (k9 : decide (en ≤ 40000) = true) (k10 : decide (1 < cls) = false) (k11 : (iss == 0) = true) (k12 : (en == 0) = true) :
    Calls Tryd.prog 11 #[.int .i64 id, .int .i64 iss, .int .i64 cls, .int .i64 mon, .int .i64 en] w fun e w' => e = .returned (.bool true) ∧ Below w.heap.size w w' := by
  have hwf : (Lit.int .i64 id).wf = true := i64wf l0 u0
  have HE := Lib.hid hE; clear hE
  go_enter Tryd.func11, Tryd.ntmps11
  go_wp2_with fail
  refine (first10_calls w).mono ?_
  rintro e w1 ⟨rfl, hb1⟩
  have hs1 := hb1.size
  go_wp2_with fail
  have hA : ((w1.alloc (Obj.cells #[.int .i64 id, .int .i64 iss, .int .i64 cls, .int .i64 mon, .int .i64 en] 89)).alloc (Obj.cells #[.map none] 92)).cell? ⟨w1.heap.size + 1, 0, none⟩ = some (.map none) := by go_simp
  have hF : ((w1.alloc (Obj.cells #[.int .i64 id, .int .i64 iss, .int .i64 cls, .int .i64 mon, .int .i64 en] 89)).alloc (Obj.cells #[.map none] 92)).frozen? ⟨w1.heap.size + 1, 0, none⟩ = false := by go_simp
  have hB2 : Below w.heap.size w ((w1.alloc (Obj.cells #[.int .i64 id, .int .i64 iss, .int .i64 cls, .int .i64 mon, .int .i64 en] 89)).alloc (Obj.cells #[.map none] 92)) := by (repeat (first | exact Below.refl _ _ | assumption | refine Below.drew ?_ | refine below_many ?_ _ | refine Below.alloc ?_ (by first | (simp; done) | (simp; omega) | omega) _ | refine Below.setCell ?_ (by first | (simp; done) | (simp; omega) | omega) _))
  have hq : ∀ i u, (w1.alloc (Obj.cells #[.int .i64 id, .int .i64 iss, .int .i64 cls, .int .i64 mon, .int .i64 en] 89)).cell? ⟨w1.heap.size, i, none⟩ = some u → ((w1.alloc (Obj.cells #[.int .i64 id, .int .i64 iss, .int .i64 cls, .int .i64 mon, .int .i64 en] 89)).alloc (Obj.cells #[.map none] 92)).cell? ⟨w1.heap.size, i, none⟩ = some u := fun i u hu => (((Below.refl (w1.alloc (Obj.cells #[.int .i64 id, .int .i64 iss, .int .i64 cls, .int .i64 mon, .int .i64 en] 89)).heap.size (w1.alloc (Obj.cells #[.int .i64 id, .int .i64 iss, .int .i64 cls, .int .i64 mon, .int .i64 en] 89))).alloc (Nat.le_refl _) _).cell (p := ⟨w1.heap.size, i, none⟩) (by simp)).trans hu
  have q0 := hq 0 (.int .i64 id) (by go_simp)
  have q1 := hq 1 (.int .i64 iss) (by go_simp)
  have q2 := hq 2 (.int .i64 cls) (by go_simp)
  have q3 := hq 3 (.int .i64 mon) (by go_simp)
  have q4 := hq 4 (.int .i64 en) (by go_simp)
  obtain ⟨W, hW⟩ : ∃ W, W = ((w1.alloc (Obj.cells #[.int .i64 id, .int .i64 iss, .int .i64 cls, .int .i64 mon, .int .i64 en] 89)).alloc (Obj.cells #[.map none] 92)) := ⟨_, rfl⟩
  rw [← hW] at hA hF hB2 q0 q1 q2 q3 q4
  have hWs : w1.heap.size + 1 < W.heap.size := by rw [hW]; simp
  rw [← hW]
  clear hW hq
  refine (masterAdd_none (HE.out.below hB2) (by decide) hA hF (.inl ⟨rfl, rfl⟩) (id, iss, cls, mon, en) hv).mono ?_
  rintro e w2 ⟨rfl, nb, hm2, hc2, hf2, hn2, hk2⟩
  have hB3 : Below w.heap.size w w2 := hB2.trans (hk2.below hB2.size (fun x hx e => by omega))
  have hr : ∀ i u, W.cell? ⟨w1.heap.size, i, none⟩ = some u → w2.cell? ⟨w1.heap.size, i, none⟩ = some u := fun i u hu => (hk2.cell (x := ⟨w1.heap.size, i, none⟩) (show w1.heap.size < _ by omega) (by simp only; omega)).trans hu
  have r0 := hr _ _ q0
  have r1 := hr _ _ q1
  have r2 := hr _ _ q2
  have r3 := hr _ _ q3
  have r4 := hr _ _ q4
  have hWs2 : w1.heap.size + 1 < w2.heap.size := Nat.lt_of_lt_of_le hWs hk2.size
  have HV := Lib.hid (validV_ok (p := p) hv)
  have HVt := Lib.hid hv
  have HM := Lib.hid hm2
  have hgm : mget [(id, ((id, iss, cls, mon, en) : AS))] id = some (id, iss, cls, mon, en) := by simp [mget]
  have HG := Lib.hid hgm
  clear hk2 hA hF hB2 hr q0 q1 q2 q3 q4 hm2 hv hgm
  go_wp2_with fail
  refine (masterGet_calls hc2 HM.out id hwf).mono ?_
  rintro e w3 ⟨rfl, hb3⟩
  rw [HG.out]
  simp only [Option.getD_some, Option.isSome_some]
  have hc3 := (hb3.cell (p := ⟨w1.heap.size + 1, 0, none⟩) hWs2).trans hc2
  have hB4 := hB3.trans (hb3.mono hB3.size)
  have HM3 := Lib.hid (HM.out.below hb3)
  have hr : ∀ i u, w2.cell? ⟨w1.heap.size, i, none⟩ = some u → ∀ ob : Obj, (w3.alloc ob).cell? ⟨w1.heap.size, i, none⟩ = some u := fun i u hu ob => ((hb3.trans ((Below.refl _ _).alloc hb3.size ob)).cell (p := ⟨w1.heap.size, i, none⟩) (show w1.heap.size < _ by omega)).trans hu
  have s0 := hr _ _ r0
  have s1 := hr _ _ r1
  have s2 := hr _ _ r2
  have s3 := hr _ _ r3
  have s4 := hr _ _ r4
  have hs3 := hB4.size
  have hWs3 : w1.heap.size + 1 < w3.heap.size := Nat.lt_of_lt_of_le hWs2 hb3.size
  clear hb3 hc2 hB3 hr r0 r1 r2 r3 r4 HM HG hf2 hn2
  go_wp2_with fail
  refine (valid_calls (HE.out.below (show Below w.heap.size w _ by (repeat (first | exact Below.refl _ _ | assumption | refine Below.drew ?_ | refine below_many ?_ _ | refine Below.alloc ?_ (by first | (simp; done) | (simp; omega) | omega) _ | refine Below.setCell ?_ (by first | (simp; done) | (simp; omega) | omega) _)))) (by decide) id iss cls mon en).mono ?_
  rintro e w4 ⟨rfl, hb4⟩
  rw [HV.out]
  have hb4' : Below w3.heap.size w3 w4 := Below.trans ((Below.refl _ _).alloc (Nat.le_refl _) _) (hb4.mono (by simp))
  have hc4 := (hb4'.cell (p := ⟨w1.heap.size + 1, 0, none⟩) hWs3).trans hc3
  have hB5 := hB4.trans (hb4'.mono hs3)
  have HM4 := Lib.hid (HM3.out.below hb4')
  have hWs4 : w1.heap.size + 1 < w4.heap.size := Nat.lt_of_lt_of_le hWs3 hb4'.size
  have hu : ∀ x u, (w3.alloc (Obj.cells #[.int .i64 id, .int .i64 iss, .int .i64 cls, .int .i64 mon, .int .i64 en] 89)).cell? x = some u → w4.cell? x = some u := fun x u hu => (hb4.cell (World.block_lt_of_cell? _ _ hu)).trans hu
  have t0 := hu _ _ (s0 _)
  have t1 := hu _ _ (s1 _)
  have t2 := hu _ _ (s2 _)
  have t3 := hu _ _ (s3 _)
  have t4 := hu _ _ (s4 _)
  have v0 := hu ⟨w3.heap.size, 0, none⟩ (.int .i64 id) (by go_simp)
  have v1 := hu ⟨w3.heap.size, 1, none⟩ (.int .i64 iss) (by go_simp)
  have v2 := hu ⟨w3.heap.size, 2, none⟩ (.int .i64 cls) (by go_simp)
  have v3 := hu ⟨w3.heap.size, 3, none⟩ (.int .i64 mon) (by go_simp)
  have v4 := hu ⟨w3.heap.size, 4, none⟩ (.int .i64 en) (by go_simp)
  clear hb4 hb4' hc3 hB4 s0 s1 s2 s3 s4 hu HM3
  go_wp2_with fail
  refine (sameAsset_self id iss cls mon en w4).mono ?_
  rintro e w5 ⟨rfl, hb5⟩
  have hc5 := (hb5.cell (p := ⟨w1.heap.size + 1, 0, none⟩) hWs4).trans hc4
  have hB6 := hB5.trans (hb5.mono hB5.size)
  have HM5 := Lib.hid (HM4.out.below hb5)
  have hu : ∀ i u, w4.cell? ⟨w1.heap.size, i, none⟩ = some u → w5.cell? ⟨w1.heap.size, i, none⟩ = some u := fun i u hu => (hb5.cell (p := ⟨w1.heap.size, i, none⟩) (show w1.heap.size < _ by omega)).trans hu
  have s0 := hu _ _ t0
  have s1 := hu _ _ t1
  have s2 := hu _ _ t2
  have s3 := hu _ _ t3
  have s4 := hu _ _ t4
  have hWs5 : w1.heap.size + 1 < w5.heap.size := Nat.lt_of_lt_of_le hWs4 hb5.size
  clear hb5 hc4 hB5 hu t0 t1 t2 t3 t4 v0 v1 v2 v3 v4 HM4
  go_wp2_with fail
  refine (all_calls hc5 HM5.out (by simp) (by simp [hwf])).mono ?_
  rintro e w6 ⟨v, rfl, hO, hb6⟩
  obtain ⟨ad, cap, rfl⟩ := hO.len
  rw [allOf_len]
  have hc6 := (hb6.cell (p := ⟨w1.heap.size + 1, 0, none⟩) hWs5).trans hc5
  have hB7 := hB6.trans (hb6.mono hB6.size)
  have HM6 := Lib.hid (HM5.out.below hb6)
  have hu : ∀ i u, w5.cell? ⟨w1.heap.size, i, none⟩ = some u → w6.cell? ⟨w1.heap.size, i, none⟩ = some u := fun i u hu => (hb6.cell (p := ⟨w1.heap.size, i, none⟩) (show w1.heap.size < _ by omega)).trans hu
  have t0 := hu _ _ s0
  have t1 := hu _ _ s1
  have t2 := hu _ _ s2
  have t3 := hu _ _ s3
  have t4 := hu _ _ s4
  clear hb6 hO hB6 hu s0 s1 s2 s3 s4 HM5 hc5
  go_wp2_with fail
  refine (masterAdd_there (HE.out.below hB7) (by decide) (by decide) hc6 HM6.out (id, iss, cls, mon, en) HVt.out (by simp [mget])).mono ?_
  rintro e w7 ⟨rfl, hb7⟩
  have hB8 := hB7.trans (hb7.mono hB7.size)
  clear hb7 hB7
  go_wp2_with fail
  refine (is_ev (HE.out.below hB8) (k := 6) (by decide) 107).mono ?_
  rintro e w8 ⟨rfl, hb8⟩
  rw [show ((101 + ((6 : Nat) : Int)) == 107) = true from rfl]
  have hB9 := hB8.trans (hb8.mono hB8.size)
  clear hb8 hB8
  go_wp2_with fail
  go_ret
  exact ⟨rfl, hB9⟩

theorem walk_AssetBounds {p : Nat → Addr} {w : World} (hE : Errs (List.range 21) w.heap.size p w) (id iss cls mon en : Int) (l0 : -9223372036854775808 ≤ id) (u0 : id ≤ 9223372036854775807) (l1 : -9223372036854775808 ≤ iss) (u1 : iss ≤ 9223372036854775807) (l2 : -9223372036854775808 ≤ cls) (u2 : cls ≤ 9223372036854775807) (l3 : -9223372036854775808 ≤ mon) (u3 : mon ≤ 9223372036854775807) (l4 : -9223372036854775808 ≤ en) (u4 : en ≤ 9223372036854775807) :
    Calls Tryd.prog 11 #[.int .i64 id, .int .i64 iss, .int .i64 cls, .int .i64 mon, .int .i64 en] w fun e w' => e = .returned (.bool true) ∧ Below w.heap.size w w' := by
  by_cases c0 : 1 ≤ id
  rotate_left
  · exact ab_f0 hE id iss cls mon en l0 u0 (decide_eq_false (by omega))  (decide_eq_false c0)
  by_cases c1 : id ≤ 32
  rotate_left
  · exact ab_f1 hE id iss cls mon en l0 u0 (decide_eq_false (by omega)) (decide_eq_true c0) (decide_eq_false c1)
  by_cases c2 : 0 ≤ iss
  rotate_left
  · exact ab_f2 hE id iss cls mon en l0 u0 (decide_eq_false (by omega)) (decide_eq_true c0) (decide_eq_true c1) (decide_eq_false c2)
  by_cases c3 : iss ≤ 32
  rotate_left
  · exact ab_f3 hE id iss cls mon en l0 u0 (decide_eq_false (by omega)) (decide_eq_true c0) (decide_eq_true c1) (decide_eq_true c2) (decide_eq_false c3)
  by_cases c4 : 1 ≤ cls
  rotate_left
  · exact ab_f4 hE id iss cls mon en l0 u0 (decide_eq_false (by omega)) (decide_eq_true c0) (decide_eq_true c1) (decide_eq_true c2) (decide_eq_true c3) (decide_eq_false c4)
  by_cases c5 : cls ≤ 6
  rotate_left
  · exact ab_f5 hE id iss cls mon en l0 u0 (decide_eq_false (by omega)) (decide_eq_true c0) (decide_eq_true c1) (decide_eq_true c2) (decide_eq_true c3) (decide_eq_true c4) (decide_eq_false c5)
  by_cases c6 : 1 ≤ mon
  rotate_left
  · exact ab_f6 hE id iss cls mon en l0 u0 (decide_eq_false (by omega)) (decide_eq_true c0) (decide_eq_true c1) (decide_eq_true c2) (decide_eq_true c3) (decide_eq_true c4) (decide_eq_true c5) (decide_eq_false c6)
  by_cases c7 : mon ≤ 6
  rotate_left
  · exact ab_f7 hE id iss cls mon en l0 u0 (decide_eq_false (by omega)) (decide_eq_true c0) (decide_eq_true c1) (decide_eq_true c2) (decide_eq_true c3) (decide_eq_true c4) (decide_eq_true c5) (decide_eq_true c6) (decide_eq_false c7)
  by_cases c8 : 0 ≤ en
  rotate_left
  · exact ab_f8 hE id iss cls mon en l0 u0 (decide_eq_false (by omega)) (decide_eq_true c0) (decide_eq_true c1) (decide_eq_true c2) (decide_eq_true c3) (decide_eq_true c4) (decide_eq_true c5) (decide_eq_true c6) (decide_eq_true c7) (decide_eq_false c8)
  by_cases c9 : en ≤ 40000
  rotate_left
  · exact ab_f9 hE id iss cls mon en l0 u0 (decide_eq_false (by omega)) (decide_eq_true c0) (decide_eq_true c1) (decide_eq_true c2) (decide_eq_true c3) (decide_eq_true c4) (decide_eq_true c5) (decide_eq_true c6) (decide_eq_true c7) (decide_eq_true c8) (decide_eq_false c9)
  by_cases c10 : 1 < cls
  · exact ab_t1 hE id iss cls mon en l0 u0 (decide_eq_true (by omega)) (decide_eq_true c0) (decide_eq_true c1) (decide_eq_true c2) (decide_eq_true c3) (decide_eq_true c4) (decide_eq_true c5) (decide_eq_true c6) (decide_eq_true c7) (decide_eq_true c8) (decide_eq_true c9) (decide_eq_true c10)
  by_cases c11 : iss = 0
  rotate_left
  · exact ab_fc1 hE id iss cls mon en l0 u0 (decide_eq_false (by omega)) (decide_eq_true c0) (decide_eq_true c1) (decide_eq_true c2) (decide_eq_true c3) (decide_eq_true c4) (decide_eq_true c5) (decide_eq_true c6) (decide_eq_true c7) (decide_eq_true c8) (decide_eq_true c9) (decide_eq_false c10) (by simpa using c11)
  by_cases c12 : en = 0
  rotate_left
  · exact ab_fc2 hE id iss cls mon en l0 u0 (decide_eq_false (by omega)) (decide_eq_true c0) (decide_eq_true c1) (decide_eq_true c2) (decide_eq_true c3) (decide_eq_true c4) (decide_eq_true c5) (decide_eq_true c6) (decide_eq_true c7) (decide_eq_true c8) (decide_eq_true c9) (decide_eq_false c10) (by simpa using c11) (by simpa using c12)
  · exact ab_t2 hE id iss cls mon en l0 u0 (decide_eq_true (by omega)) (decide_eq_true c0) (decide_eq_true c1) (decide_eq_true c2) (decide_eq_true c3) (decide_eq_true c4) (decide_eq_true c5) (decide_eq_true c6) (decide_eq_true c7) (decide_eq_true c8) (decide_eq_true c9) (decide_eq_false c10) (by simpa using c11) (by simpa using c12)

end Go.Proofs.YtclhajcphnpgjaaDoor
