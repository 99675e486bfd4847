/- hold.Put into empty holdings. -/
import Derived.Test.YtfecgcdceegdlaaDoorHold
namespace Go.Proofs.YtfecgcdceegdlaaDoor
open Go.Maps
open Go Go.RowKit
set_option linter.unusedSimpArgs false
set_option linter.unusedVariables false

set_option maxHeartbeats 4000000 in
set_option maxRecDepth 100000 in
theorem holdPut_none {ks : List Nat} {B : Nat} {p : Nat → Addr} {w : World} (hE : Errs ks B p w) (h2 : 2 ∈ ks) {b o : Nat} {r : Option Nat} (hc : w.cell? ⟨b, o, none⟩ = some (.map r)) (hfz : w.frozen? ⟨b, o, none⟩ = false) (hm : SpotMap w r []) (s k q : Int) (hv : spotOK s k q = true) :
    Calls Tryd.prog 34 #[.pointer (some ⟨b, o, none⟩), pairV (s, k), .int .i64 q] w fun e w' => e = .returned .nilIface ∧ ∃ nb, SpotMap w' (some nb) [((s, k), q)] ∧ w'.cell? ⟨b, o, none⟩ = some (.map (some nb)) ∧ w'.frozen? ⟨b, o, none⟩ = false ∧ w.heap.size ≤ nb ∧ Keep (fun x => x = b) w w' := by
  have hlt : b < w.heap.size := World.block_lt_of_cell? w ⟨b, o, none⟩ hc
  have ws : (Lit.int .i64 s).wf = true := by simp only [spotOK, decide_eq_true_eq] at hv; exact i64wf (by omega) (by omega)
  have wk : (Lit.int .i64 k).wf = true := by simp only [spotOK, decide_eq_true_eq] at hv; exact i64wf (by omega) (by omega)
  have hqb : 1 ≤ q ∧ q ≤ 1000000000000 := by simp only [spotOK, decide_eq_true_eq] at hv; omega
  have HE := Lib.hid hE
  have HV : Hid (fitsV p s k q = .nilIface) := by unfold Hid fitsV; rw [if_pos hv]
  have HM := Lib.hid hm
  have hmm := @run_makeMap Tryd.prog
  clear hE hv hm
  go_enter Tryd.func34, Tryd.ntmps34
  go_wp2_with fail
  refine (holdFits_calls (HE.out.below (show Below B w _ from (Below.refl _ _).alloc HE.out.size _)) h2 s k q).mono ?_
  rintro e w1 ⟨rfl, hb⟩
  rw [HV.out]
  have hB : Below w.heap.size w w1 := Below.trans ((Below.refl _ _).alloc (Nat.le_refl _) _) (hb.mono (by simp))
  have hc1 := (hB.cell (p := ⟨b, o, none⟩) hlt).trans hc
  have hf1 := (hB.frozen (p := ⟨b, o, none⟩) hlt).trans hfz
  have hq : ∀ i u, (w.alloc (Obj.cells #[.int .i64 s, .int .i64 k] 55)).cell? ⟨w.heap.size, i, none⟩ = some u → w1.cell? ⟨w.heap.size, i, none⟩ = some u := fun i u hu => (hb.cell (p := ⟨w.heap.size, i, none⟩) (by simp)).trans hu
  have q0 := hq 0 (.int .i64 s) (by go_simp)
  have q1 := hq 1 (.int .i64 k) (by go_simp)
  have hs1 : w.heap.size < w1.heap.size := by have := hb.size; simp at this; omega
  have hb1 : b < w1.heap.size := Nat.lt_trans hlt hs1
  have hm1 := HM.out.below hB
  have hlk : ∀ n, (Instr.lookup 51 (.map r) (.agg #[.int .i64 s, .int .i64 k]) false).run Tryd.prog (w1.drewN n) = .ok (.int .i64 0) (w1.drewN n) := fun n => spot_look (hm1.drewN n) s k ws wk
  have hln : ∀ n, (Builtin.len_ #[51] 3 #[.map r]).run Tryd.prog (w1.drewN n) = .ok (.int .i64 0) (w1.drewN n) := fun n => spot_len (hm1.drewN n)
  have hne : ¬ b = w.heap.size := by omega
  have hne' : ¬ w.heap.size = b := by omega
  clear hb hq hm1 hfz hc
  go_wp2_with fail
  go_quiet ((go_at_call 78; exact Calls.quiet_of_same ((fixAdd_calls 0 q (by omega) (by omega) (by omega) (by omega) _).mono fun _ _ ⟨he, hw⟩ => ⟨he, hw.symm⟩)))
  obtain ⟨w2, hw2⟩ : ∃ w2, w2 = w1.drewN nq := ⟨_, rfl⟩
  rw [← hw2]
  have hB2 : Below w.heap.size w w2 := by rw [hw2]; exact below_many hB nq
  have c0 : w2.cell? ⟨b, o, none⟩ = some (.map r) := by rw [hw2]; exact hc1
  have f0 : w2.frozen? ⟨b, o, none⟩ = false := by rw [hw2]; exact hf1
  have p0 : w2.cell? ⟨w.heap.size, 0, none⟩ = some (.int .i64 s) := by rw [hw2]; exact q0
  have p1 : w2.cell? ⟨w.heap.size, 1, none⟩ = some (.int .i64 k) := by rw [hw2]; exact q1
  have hln2 : (Builtin.len_ #[51] 3 #[.map r]).run Tryd.prog w2 = .ok (.int .i64 0) w2 := by rw [hw2]; exact hln nq
  have hs2 : w.heap.size < w2.heap.size := by rw [hw2]; exact hs1
  have hb2 : b < w2.heap.size := Nat.lt_trans hlt hs2
  clear hw2 hln hlk q0 q1 hc1 hf1 hB hs1 hb1
  obtain ⟨Z, hZ⟩ : ∃ Z, Z = ((w2.setCell ⟨b, o, none⟩ (.map (some w2.heap.size))).alloc (Obj.map #[] 0)) := ⟨_, rfl⟩
  have hsz : (w2.setCell ⟨b, o, none⟩ (.map (some w2.heap.size))).heap.size = w2.heap.size := by simp [World.setCell]
  have hbelow : Below (w2.setCell ⟨b, o, none⟩ (.map (some w2.heap.size))).heap.size (w2.setCell ⟨b, o, none⟩ (.map (some w2.heap.size))) Z := by rw [hZ]; (repeat (first | exact Below.refl _ _ | assumption | refine Below.drew ?_ | refine below_many ?_ _ | refine Below.alloc ?_ (by first | (simp; done) | (simp; omega) | omega) _ | refine Below.setCell ?_ (by first | (simp; done) | (simp; omega) | omega) _))
  have hm0 : SpotMap Z.drew (some w2.heap.size) [] := .inr ⟨_, rfl, by
    have := MapAt.made (β := Int) (P := Tryd.prog) (K := 55) (kv := pairV) (vv := i64V) (w2.setCell ⟨b, o, none⟩ (.map (some w2.heap.size)))
    rw [hsz] at this
    rw [hZ]; exact this⟩
  have hk1 : Keep (fun x => x = b) w2 Z.drew := (keep_setCell w2 ⟨b, o, none⟩ _).trans (Keep.of_below (Below.drew hbelow))
  have z0 : Z.cell? ⟨b, o, none⟩ = some (.map (some w2.heap.size)) := (hbelow.cell (p := ⟨b, o, none⟩) (by rw [hsz]; exact hb2)).trans (World.cell?_setCell_same' w2 _ _ (by rw [c0]; rfl))
  have zf : Z.frozen? ⟨b, o, none⟩ = false := (hbelow.frozen (p := ⟨b, o, none⟩) (by rw [hsz]; exact hb2)).trans (by rw [frozen_setCell]; exact f0)
  have hZs : w2.heap.size < Z.heap.size := by rw [hZ]; simp [hsz]
  have z1 : ∀ i u, w2.cell? ⟨w.heap.size, i, none⟩ = some u → Z.cell? ⟨w.heap.size, i, none⟩ = some u := fun i u hu => (hk1.cell (x := ⟨w.heap.size, i, none⟩) hs2 (by simp only; omega)).trans hu
  have y0 := z1 _ _ p0
  have y1 := z1 _ _ p1
  obtain ⟨w3, hst, hm3, hk3, _⟩ := spot_store hm0 s k q ws wk
  have HP : Hid (SpotMap w3 (some w2.heap.size) [((s, k), q)] ∧ w3.cell? ⟨b, o, none⟩ = some (.map (some w2.heap.size)) ∧ w3.frozen? ⟨b, o, none⟩ = false ∧ w.heap.size ≤ w2.heap.size ∧ Keep (fun x => x = b) w w3) := by
    refine ⟨by simpa [mput, mget] using hm3, ?_, ?_, by omega, ?_⟩
    · rw [hk3.cell (x := ⟨b, o, none⟩) (show b < Z.heap.size by omega) (by simp only; omega)]; exact z0
    · rw [hk3.frozen (x := ⟨b, o, none⟩) (show b < Z.heap.size by omega) (by simp only; omega)]; exact zf
    · refine (Keep.of_below hB2).trans ?_
      refine ⟨hk3.os.trans hk1.os, hk3.tape.trans hk1.tape, hk3.output.trans hk1.output, Nat.le_trans hk1.size hk3.size, fun i hi hn => (hk3.block i (Nat.lt_of_lt_of_le hi hk1.size) (by omega)).trans (hk1.block i hi hn)⟩
  have HZ := Lib.hid hZ
  clear hZ hbelow hm0 hk1 z1 hm3 hk3 hB2
  go_wp2_with fail
  rw [← HZ.out]
  (refine wp_region_still_tail 6 (by kernel_rfl) (by kernel_rfl) ?_; simp only [List.take_succ_cons, List.take_zero, List.drop_succ_cons, List.drop_zero]; change wpStill _ _ (World.drew _) _ _ _; (repeat still_step); refine wpStill_nil ?_; change wpList _ _ _ _ _ (World.drew _))
  go_wp2_with fail
  try (rw [hst]; go_wp2_with fail)
  go_ret
  exact ⟨rfl, _, HP.out⟩
end Go.Proofs.YtfecgcdceegdlaaDoor
