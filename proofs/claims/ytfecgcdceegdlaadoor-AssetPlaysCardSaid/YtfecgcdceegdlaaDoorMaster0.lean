/- asset.Add into an empty master. -/
import Derived.Test.YtfecgcdceegdlaaDoorAll
namespace Go.Proofs.YtfecgcdceegdlaaDoor
open Go.Maps
open Go Go.RowKit
set_option linter.unusedSimpArgs false
set_option linter.unusedVariables false

set_option maxHeartbeats 4000000 in
set_option maxRecDepth 100000 in
theorem masterAdd_none {ks : List Nat} {B : Nat} {p : Nat → Addr} {w : World} (hE : Errs ks B p w) (h2 : 2 ∈ ks) {b o : Nat} {r : Option Nat} (hc : w.cell? ⟨b, o, none⟩ = some (.map r)) (hfz : w.frozen? ⟨b, o, none⟩ = false) (hm : AssetMap w r []) (a : AS) (hv : validA a.1 a.2.1 a.2.2.1 a.2.2.2.1 a.2.2.2.2 = true) :
    Calls Tryd.prog 17 #[.pointer (some ⟨b, o, none⟩), astV a] w fun e w' => e = .returned .nilIface ∧ ∃ nb, AssetMap w' (some nb) [(a.1, a)] ∧ w'.cell? ⟨b, o, none⟩ = some (.map (some nb)) ∧ w'.frozen? ⟨b, o, none⟩ = false ∧ w.heap.size ≤ nb ∧ Keep (fun x => x = b) w w' := by
  have hlt : b < w.heap.size := World.block_lt_of_cell? w ⟨b, o, none⟩ hc
  obtain ⟨a1, a2, a3, a4, a5⟩ := a
  have hwf : (Lit.int .i64 a1).wf = true := by
    simp only [validA, decide_eq_true_eq] at hv
    exact i64wf (by omega) (by omega)
  have HE := Lib.hid hE
  have HV := Lib.hid (validV_ok (p := p) hv)
  have HM := Lib.hid hm
  have hmm := @run_makeMap Tryd.prog
  clear hE hv hm
  go_enter Tryd.func17, Tryd.ntmps17
  go_wp2_with fail
  refine (valid_calls (HE.out.below (show Below B w _ from (Below.refl _ _).alloc HE.out.size _)) h2 a1 a2 a3 a4 a5).mono ?_
  rintro e w1 ⟨rfl, hb⟩
  rw [HV.out]
  have hB : Below w.heap.size w w1 := Below.trans ((Below.refl _ _).alloc (Nat.le_refl _) _) (hb.mono (by simp))
  have hc1 := (hB.cell (p := ⟨b, o, none⟩) hlt).trans hc
  have hf1 := (hB.frozen (p := ⟨b, o, none⟩) hlt).trans hfz
  have hq : ∀ i u, (w.alloc (Obj.cells #[.int .i64 a1, .int .i64 a2, .int .i64 a3, .int .i64 a4, .int .i64 a5] 29)).cell? ⟨w.heap.size, i, none⟩ = some u → w1.cell? ⟨w.heap.size, i, none⟩ = some u := fun i u hu => (hb.cell (p := ⟨w.heap.size, i, none⟩) (by simp)).trans hu
  have q0 := hq 0 (.int .i64 a1) (by go_simp)
  have q1 := hq 1 (.int .i64 a2) (by go_simp)
  have q2 := hq 2 (.int .i64 a3) (by go_simp)
  have q3 := hq 3 (.int .i64 a4) (by go_simp)
  have q4 := hq 4 (.int .i64 a5) (by go_simp)
  have hs1 : w.heap.size < w1.heap.size := by have := hb.size; simp at this; omega
  have hl := asset_look_ok (HM.out.below hB).drew a1 hwf
  have hl' : ∀ ob, (Instr.lookup 25 (.map r) (.int .i64 a1) true).run Tryd.prog (w1.alloc ob).drew = .ok (.tuple #[astV zeroA, .bool false]) (w1.alloc ob).drew := fun ob => asset_look_ok ((HM.out.below hB).alloc ob).drew a1 hwf
  have hn' : ∀ ob, (Builtin.len_ #[25] 3 #[.map r]).run Tryd.prog (w1.alloc ob).drew = .ok (.int .i64 0) (w1.alloc ob).drew := fun ob => asset_len ((HM.out.below hB).alloc ob).drew
  have hcell' : ∀ (x : Addr) u, w1.cell? x = some u → ∀ ob : Obj, (w1.alloc ob).cell? x = some u := fun x u hx ob => (((Below.refl w1.heap.size w1).alloc (Nat.le_refl _) ob).cell (World.block_lt_of_cell? w1 _ hx)).trans hx
  have hb1 : b < w1.heap.size := Nat.lt_trans hlt hs1
  have e0 := hcell' _ _ hc1
  have e1 := hcell' _ _ q0
  have e2 := hcell' _ _ q1
  have e3 := hcell' _ _ q2
  have e4 := hcell' _ _ q3
  have e5 := hcell' _ _ q4
  have f0 : ∀ ob : Obj, (w1.alloc ob).frozen? ⟨b, o, none⟩ = false := fun ob => (((Below.refl w1.heap.size w1).alloc (Nat.le_refl _) ob).frozen (p := ⟨b, o, none⟩) hb1).trans hf1
  simp only [mget_nil, Option.getD_none, Option.isSome_none] at hl
  have hne : ¬ b = w.heap.size := by omega
  have hne' : ¬ w.heap.size = b := by omega
  obtain ⟨Z, hZ⟩ : ∃ Z, Z = ((((w1.setCell ⟨b, o, none⟩ (.map (some (w1.heap.size + 1)))).alloc (Obj.cells #[.int .i64 zeroA.1, .int .i64 zeroA.2.1, .int .i64 zeroA.2.2.1, .int .i64 zeroA.2.2.2.1, .int .i64 zeroA.2.2.2.2] 29)).alloc (Obj.map #[] 0)).drew) := ⟨_, rfl⟩
  have hsz : (w1.setCell ⟨b, o, none⟩ (.map (some (w1.heap.size + 1)))).heap.size = w1.heap.size := by simp [World.setCell]
  have hbelow : Below (w1.setCell ⟨b, o, none⟩ (.map (some (w1.heap.size + 1)))).heap.size (w1.setCell ⟨b, o, none⟩ (.map (some (w1.heap.size + 1)))) Z := by rw [hZ]; (repeat (first | exact Below.refl _ _ | assumption | refine Below.drew ?_ | refine below_many ?_ _ | refine Below.alloc ?_ (by first | (simp; done) | (simp; omega) | omega) _ | refine Below.setCell ?_ (by first | (simp; done) | (simp; omega) | omega) _))
  have hm0 : AssetMap Z.drew (some (w1.heap.size + 1)) [] := .inr ⟨_, rfl, by
    have := MapAt.made (β := AS) (P := Tryd.prog) (K := 3) (kv := i64V) (vv := astV) ((w1.setCell ⟨b, o, none⟩ (.map (some (w1.heap.size + 1)))).alloc (Obj.cells #[.int .i64 zeroA.1, .int .i64 zeroA.2.1, .int .i64 zeroA.2.2.1, .int .i64 zeroA.2.2.2.1, .int .i64 zeroA.2.2.2.2] 29))
    rw [show ((w1.setCell ⟨b, o, none⟩ (.map (some (w1.heap.size + 1)))).alloc (Obj.cells #[.int .i64 zeroA.1, .int .i64 zeroA.2.1, .int .i64 zeroA.2.2.1, .int .i64 zeroA.2.2.2.1, .int .i64 zeroA.2.2.2.2] 29)).heap.size = w1.heap.size + 1 by simp [hsz]] at this
    rw [hZ]; exact this⟩
  have hk1 : Keep (fun x => x = b) w1 Z.drew := (keep_setCell w1 ⟨b, o, none⟩ _).trans (Keep.of_below (Below.drew hbelow))
  have z0 : Z.cell? ⟨b, o, none⟩ = some (.map (some (w1.heap.size + 1))) := (hbelow.cell (p := ⟨b, o, none⟩) (by rw [hsz]; exact hb1)).trans (by go_simp)
  have zf : Z.frozen? ⟨b, o, none⟩ = false := (hbelow.frozen (p := ⟨b, o, none⟩) (by rw [hsz]; exact hb1)).trans (by rw [frozen_setCell]; exact hf1)
  have hZs : w1.heap.size + 1 < Z.heap.size := by rw [hZ]; simp [hsz]
  have z1 : ∀ i u, w1.cell? ⟨w.heap.size, i, none⟩ = some u → Z.cell? ⟨w.heap.size, i, none⟩ = some u := fun i u hu => (hk1.cell (x := ⟨w.heap.size, i, none⟩) hs1 (by simp only; omega)).trans hu
  have y0 := z1 _ _ q0
  have y1 := z1 _ _ q1
  have y2 := z1 _ _ q2
  have y3 := z1 _ _ q3
  have y4 := z1 _ _ q4
  obtain ⟨w2, hst, hm2, hk2, _⟩ := asset_store hm0 a1 (a1, a2, a3, a4, a5) hwf
  have HP : Hid (AssetMap w2 (some (w1.heap.size + 1)) [(a1, (a1, a2, a3, a4, a5))] ∧ w2.cell? ⟨b, o, none⟩ = some (.map (some (w1.heap.size + 1))) ∧ w2.frozen? ⟨b, o, none⟩ = false ∧ w.heap.size ≤ w1.heap.size + 1 ∧ Keep (fun x => x = b) w w2) := by
    refine ⟨by simpa [mput, mget] using hm2, ?_, ?_, by omega, ?_⟩
    · rw [hk2.cell (x := ⟨b, o, none⟩) (show b < Z.heap.size by omega) (by simp only; omega)]; exact z0
    · rw [hk2.frozen (x := ⟨b, o, none⟩) (show b < Z.heap.size by omega) (by simp only; omega)]; exact zf
    · refine (Keep.of_below hB).trans ?_
      refine ⟨hk2.os.trans hk1.os, hk2.tape.trans hk1.tape, hk2.output.trans hk1.output, Nat.le_trans hk1.size hk2.size, fun i hi hn => (hk2.block i (Nat.lt_of_lt_of_le hi hk1.size) (by omega)).trans (hk1.block i hi hn)⟩
  have HZ := Lib.hid hZ
  clear hb hc hq hcell' hfz hZ hbelow hm0 hk1 z1 hm2 hk2
  go_wp2_with fail
  go_region_with fail
  all_goals
    go_wp2_with fail
    rw [← HZ.out]
    (refine wp_region_still_tail 7 (by kernel_rfl) (by kernel_rfl) ?_; simp only [List.take_succ_cons, List.take_zero, List.drop_succ_cons, List.drop_zero]; change wpStill _ _ (World.drew _) _ _ _; (repeat still_step); refine wpStill_nil ?_; change wpList _ _ _ _ _ (World.drew _))
    go_wp2_with fail
    go_ret
    exact ⟨rfl, _, HP.out⟩

end Go.Proofs.YtfecgcdceegdlaaDoor
