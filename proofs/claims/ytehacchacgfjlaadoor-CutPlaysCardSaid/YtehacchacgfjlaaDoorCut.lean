/- Package cut: the ladder's methods: what each call returns and what it leaves. -/
import Derived.Test.YtehacchacgfjlaaDoorMap
import Derived.Test.YtehacchacgfjlaaDoorAsset
import Derived.StillTailTactics
import Derived.Deep.RegionHeld3
namespace Go.Proofs.YtehacchacgfjlaaDoor
open Go.Maps
open Go Go.RowKit
set_option linter.unusedSimpArgs false
set_option linter.unusedVariables false

theorem stepKeyed : Keyed Tryd.prog 66 := Keyed.of_law (deep_law_laid (by kernel_rfl) (m := 2) (by omega) (of_decide_eq_true (by kernel_rfl)) (by kernel_rfl) (by rw [Tryd.underlying66]))
theorem stepKey (k : Int × Int) (h1 : (Lit.int .i64 k.1).wf = true) (h2 : (Lit.int .i64 k.2).wf = true) : ∃ l, keyOf Tryd.prog 66 (pairV k) = some l :=
  pairKey Tryd.underlying66 rfl rfl rfl rfl (by decide) (by decide) Tryd.underlying3 (by kernel_rfl) (by kernel_rfl) (by kernel_rfl) h1 h2 ⟨Tryd.prog.types.size - 1, by have : 0 < Tryd.prog.types.size := of_decide_eq_true (by kernel_rfl); omega⟩
/-- A ladder's map: steps and cuts. -/
abbrev StepMap (w : World) (r : Option Nat) (m : List ((Int × Int) × Int)) : Prop := MapV Tryd.prog 66 pairV i64V w r m
theorem step_look {w : World} {r : Option Nat} {m : List ((Int × Int) × Int)} (h : StepMap w r m) (a b : Int) (h1 : (Lit.int .i64 a).wf = true) (h2 : (Lit.int .i64 b).wf = true) :
    (Instr.lookup 62 (.map r) (.agg #[.int .i64 a, .int .i64 b]) false).run Tryd.prog w = .ok (.int .i64 ((mget m (a, b)).getD 0)) w := by
  have := h.look stepKeyed pairV_inj Tryd.underlying62 (z := .int .i64 0) (by kernel_rfl) (k := (a, b)) (stepKey _ h1 h2)
  rw [this]
  cases mget m (a, b) <;> rfl

set_option maxRecDepth 100000 in
theorem cutGet_calls {w : World} {b o : Nat} {r : Option Nat} {m : List ((Int × Int) × Int)} (hc : w.cell? ⟨b, o, none⟩ = some (.map r)) (hm : StepMap w r m) (cls bk : Int) (h1 : (Lit.int .i64 cls).wf = true) (h2 : (Lit.int .i64 bk).wf = true) :
    Calls Tryd.prog 41 #[.pointer (some ⟨b, o, none⟩), pairV (cls, bk)] w fun e w' => e = .returned (.int .i64 ((mget m (cls, bk)).getD 0)) ∧ Below w.heap.size w w' := by
  have hlt : b < w.heap.size := World.block_lt_of_cell? w ⟨b, o, none⟩ hc
  have hl : ∀ n, (Instr.lookup 62 (.map r) (.agg #[.int .i64 cls, .int .i64 bk]) false).run Tryd.prog ((w.alloc (Obj.cells #[.int .i64 cls, .int .i64 bk] 66)).drewN n) = .ok (.int .i64 ((mget m (cls, bk)).getD 0)) ((w.alloc (Obj.cells #[.int .i64 cls, .int .i64 bk] 66)).drewN n) :=
    fun n => step_look ((hm.alloc _).drewN n) cls bk h1 h2
  clear hm h1 h2
  generalize (mget m (cls, bk)).getD 0 = v at hl ⊢
  go_enter Tryd.func41, Tryd.ntmps41
  go_wp2_with fail
  go_quiet (fail)
  go_wp2_with fail
  go_ret
  exact ⟨rfl, by (repeat (first | exact Below.refl _ _ | assumption | refine Below.drew ?_ | refine below_many ?_ _ | refine Below.alloc ?_ (by first | (simp; done) | (simp; omega) | omega) _ | refine Below.setCell ?_ (by first | (simp; done) | (simp; omega) | omega) _))⟩

theorem step_len {w : World} {r : Option Nat} {m : List ((Int × Int) × Int)} (h : StepMap w r m) : (Builtin.len_ #[62] 3 #[.map r]).run Tryd.prog w = .ok (.int .i64 (m.length : Int)) w :=
  h.len Tryd.underlying62
set_option maxRecDepth 100000 in
theorem step_store {w : World} {b : Nat} {m : List ((Int × Int) × Int)} (h : StepMap w (some b) m) (x y v : Int) (h1 : (Lit.int .i64 x).wf = true) (h2 : (Lit.int .i64 y).wf = true) :
    ∃ w', (Instr.mapUpdate 62 (.map (some b)) (.agg #[.int .i64 x, .int .i64 y]) (.int .i64 v)).run Tryd.prog w = .ok () w' ∧ StepMap w' (some b) (mput m (x, y) v) ∧ Keep (fun x => x = b) w w' ∧ w'.heap.size = w.heap.size :=
  MapV.store (kv := pairV) (vv := i64V) stepKeyed pairV_inj Tryd.underlying62 h v (stepKey (x, y) h1 h2)

def isBp (n : Int) : Bool := decide (0 ≤ n ∧ n ≤ 10000)
theorem is_bp (n : Int) (w : World) : Calls Tryd.prog 80 #[.int .i64 n] w fun e w' => e = .returned (.bool (isBp n)) ∧ w = w' := by
  by_cases h : 0 ≤ n
  · go_enter Tryd.func80, Tryd.ntmps80
    go_wp2
    go_ret
    exact ⟨congrArg (fun x => Ending.returned (Value.bool x)) (by simp [isBp, h]), rfl⟩
  · have h' : decide (0 ≤ n) = false := decide_eq_false h
    rw [show isBp n = false from decide_eq_false (by omega)]
    go_enter Tryd.func80, Tryd.ntmps80
    go_wp2
    go_ret
    exact ⟨rfl, rfl⟩

set_option maxRecDepth 100000 in
theorem cutSet_some {w : World} {b o mb : Nat} {m : List ((Int × Int) × Int)} (hc : w.cell? ⟨b, o, none⟩ = some (.map (some mb))) (hm : StepMap w (some mb) m) (hne : m ≠ []) (cls bk bp : Int)
    (k0 : decide (cls < 1) = false) (k1 : decide (6 < cls) = false) (k2 : decide (bk < 0) = false) (k3 : decide (6 ≤ bk) = false) (k4 : isBp bp = true) :
    Calls Tryd.prog 40 #[.pointer (some ⟨b, o, none⟩), pairV (cls, bk), .int .i64 bp] w fun e w' => e = .returned .nilIface ∧ StepMap w' (some mb) (mput m (cls, bk) bp) ∧ Keep (fun x => x = mb) w w' := by
  have hlt : b < w.heap.size := World.block_lt_of_cell? w ⟨b, o, none⟩ hc
  have hp : ((m.length : Int) == 0) = false := by simp [hne]
  have hl := step_len (hm.alloc (Obj.cells #[.int .i64 cls, .int .i64 bk] 66))
  have wc : (Lit.int .i64 cls).wf = true := i64wf (by simp at k0; omega) (by simp at k1; omega)
  have wb : (Lit.int .i64 bk).wf = true := i64wf (by simp at k2; omega) (by simp at k3; omega)
  obtain ⟨w2, hst, hm2, hk2, _⟩ := step_store (hm.alloc (Obj.cells #[.int .i64 cls, .int .i64 bk] 66)).drew cls bk bp wc wb
  have HM := Lib.hid hm2
  clear hm hm2 wc wb hne
  go_enter Tryd.func40, Tryd.ntmps40
  go_wp2_with (go_at_call 80; refine (is_bp _ _).mono ?_; rintro e w1 ⟨rfl, rfl⟩; rw [k4])
  (refine wp_region_still_tail 6 (by kernel_rfl) (by kernel_rfl) ?_; simp only [List.take_succ_cons, List.take_zero, List.drop_succ_cons, List.drop_zero]; change wpStill _ _ (World.drew _) _ _ _; (repeat still_step); refine wpStill_nil ?_; change wpList _ _ _ _ _ (World.drew _))
  go_wp2_with fail
  go_ret
  exact ⟨rfl, HM.out, (Keep.of_below (by (repeat (first | exact Below.refl _ _ | assumption | refine Below.drew ?_ | refine below_many ?_ _ | refine Below.alloc ?_ (by first | (simp; done) | (simp; omega) | omega) _ | refine Below.setCell ?_ (by first | (simp; done) | (simp; omega) | omega) _)))).trans hk2⟩

set_option maxRecDepth 100000 in
theorem cutSet_none {w : World} {b o : Nat} {r : Option Nat} (hc : w.cell? ⟨b, o, none⟩ = some (.map r)) (hfz : w.frozen? ⟨b, o, none⟩ = false) (hm : StepMap w r []) (cls bk bp : Int)
    (k0 : decide (cls < 1) = false) (k1 : decide (6 < cls) = false) (k2 : decide (bk < 0) = false) (k3 : decide (6 ≤ bk) = false) (k4 : isBp bp = true) :
    Calls Tryd.prog 40 #[.pointer (some ⟨b, o, none⟩), pairV (cls, bk), .int .i64 bp] w fun e w' => e = .returned .nilIface ∧ ∃ nb, StepMap w' (some nb) (mput [] (cls, bk) bp) ∧ MapField w w' b o r (some nb) := by
  have hlt : b < w.heap.size := World.block_lt_of_cell? w ⟨b, o, none⟩ hc
  have hl := step_len (hm.alloc (Obj.cells #[.int .i64 cls, .int .i64 bk] 66))
  have wc : (Lit.int .i64 cls).wf = true := i64wf (by simp at k0; omega) (by simp at k1; omega)
  have wb : (Lit.int .i64 bk).wf = true := i64wf (by simp at k2; omega) (by simp at k3; omega)
  have hmm := @run_makeMap Tryd.prog
  have hsz : (w.setCell ⟨b, o, none⟩ (.map (some (w.heap.size + 1)))).heap.size = w.heap.size := by simp [World.setCell]
  have hm0 : StepMap ((((w.setCell ⟨b, o, none⟩ (.map (some (w.heap.size + 1)))).alloc (Obj.cells #[.int .i64 cls, .int .i64 bk] 66)).alloc (Obj.map #[] 0)).drew) (some (w.heap.size + 1)) [] :=
    .inr ⟨_, rfl, by
      have := MapAt.made (β := Int) (P := Tryd.prog) (K := 66) (kv := pairV) (vv := i64V) ((w.setCell ⟨b, o, none⟩ (.map (some (w.heap.size + 1)))).alloc (Obj.cells #[.int .i64 cls, .int .i64 bk] 66))
      rw [show ((w.setCell ⟨b, o, none⟩ (.map (some (w.heap.size + 1)))).alloc (Obj.cells #[.int .i64 cls, .int .i64 bk] 66)).heap.size = w.heap.size + 1 by simp [hsz]] at this
      exact this⟩
  obtain ⟨w2, hst, hm2, hk2, hs2⟩ := step_store hm0 cls bk bp wc wb
  have HM := Lib.hid hm2
  have hb1 : Keep (fun x => x = b) w (((w.setCell ⟨b, o, none⟩ (.map (some (w.heap.size + 1)))).alloc (Obj.cells #[.int .i64 cls, .int .i64 bk] 66)).alloc (Obj.map #[] 0)).drew :=
    (keep_setCell w ⟨b, o, none⟩ _).trans (Keep.of_below (by (repeat (first | exact Below.refl _ _ | assumption | refine Below.drew ?_ | refine below_many ?_ _ | refine Below.alloc ?_ (by first | (simp; done) | (simp; omega) | omega) _ | refine Below.setCell ?_ (by first | (simp; done) | (simp; omega) | omega) _))))
  have hcell : (((w.setCell ⟨b, o, none⟩ (.map (some (w.heap.size + 1)))).alloc (Obj.cells #[.int .i64 cls, .int .i64 bk] 66)).alloc (Obj.map #[] 0)).drew.cell? ⟨b, o, none⟩ = some (.map (some (w.heap.size + 1))) := by
    go_simp
  have hoth : ∀ o', (((w.setCell ⟨b, o, none⟩ (.map (some (w.heap.size + 1)))).alloc (Obj.cells #[.int .i64 cls, .int .i64 bk] 66)).alloc (Obj.map #[] 0)).drew.cell? ⟨b, o', none⟩ = (w.setCell ⟨b, o, none⟩ (.map (some (w.heap.size + 1)))).cell? ⟨b, o', none⟩ ∧
      (((w.setCell ⟨b, o, none⟩ (.map (some (w.heap.size + 1)))).alloc (Obj.cells #[.int .i64 cls, .int .i64 bk] 66)).alloc (Obj.map #[] 0)).drew.frozen? ⟨b, o', none⟩ = (w.setCell ⟨b, o, none⟩ (.map (some (w.heap.size + 1)))).frozen? ⟨b, o', none⟩ := by
    intro o'
    have hb0 : Below (w.setCell ⟨b, o, none⟩ (.map (some (w.heap.size + 1)))).heap.size (w.setCell ⟨b, o, none⟩ (.map (some (w.heap.size + 1)))) (((w.setCell ⟨b, o, none⟩ (.map (some (w.heap.size + 1)))).alloc (Obj.cells #[.int .i64 cls, .int .i64 bk] 66)).alloc (Obj.map #[] 0)).drew := by (repeat (first | exact Below.refl _ _ | assumption | refine Below.drew ?_ | refine below_many ?_ _ | refine Below.alloc ?_ (by first | (simp; done) | (simp; omega) | omega) _ | refine Below.setCell ?_ (by first | (simp; done) | (simp; omega) | omega) _))
    exact ⟨hb0.cell (p := ⟨b, o', none⟩) (by rw [hsz]; exact hlt), hb0.frozen (p := ⟨b, o', none⟩) (by rw [hsz]; exact hlt)⟩
  have hne : ¬ b = w.heap.size + 1 := by omega
  have HF : MapField w w2 b o r (some (w.heap.size + 1)) := by
    have hlt1 : b < (((w.setCell ⟨b, o, none⟩ (.map (some (w.heap.size + 1)))).alloc (Obj.cells #[.int .i64 cls, .int .i64 bk] 66)).alloc (Obj.map #[] 0)).drew.heap.size := by
      have := hb1.size; omega
    refine ⟨?_, fun o' ho => ?_, fun o' => ?_, .inr ⟨_, rfl, by omega⟩, ?_⟩
    · rw [hk2.cell (x := ⟨b, o, none⟩) hlt1 hne]; exact hcell
    · rw [hk2.cell (x := ⟨b, o', none⟩) hlt1 hne, (hoth o').1, cell_setCell_other ho]
    · rw [hk2.frozen (x := ⟨b, o', none⟩) hlt1 hne, (hoth o').2, frozen_setCell]
    · refine ⟨hk2.os.trans hb1.os, hk2.tape.trans hb1.tape, hk2.output.trans hb1.output, Nat.le_trans hb1.size hk2.size, fun i hi hs => ?_⟩
      simp only [not_or] at hs
      exact (hk2.block i (Nat.lt_of_lt_of_le hi hb1.size) (by omega)).trans (hb1.block i hi hs.1)
  have HFh := Lib.hid HF
  clear hm0 hm2 hm wc wb hb1 hcell hoth hk2 hs2 HF hsz
  go_enter Tryd.func40, Tryd.ntmps40
  go_wp2_with (go_at_call 80; refine (is_bp _ _).mono ?_; rintro e w1 ⟨rfl, rfl⟩; rw [k4])
  (refine wp_region_still_tail 6 (by kernel_rfl) (by kernel_rfl) ?_; simp only [List.take_succ_cons, List.take_zero, List.drop_succ_cons, List.drop_zero]; change wpStill _ _ (World.drew _) _ _ _; (repeat still_step); refine wpStill_nil ?_; change wpList _ _ _ _ _ (World.drew _))
  go_wp2_with fail
  go_ret
  exact ⟨rfl, _, HM.out, HFh.out⟩

/-- A step and a cut that may be set. -/
def stepOK (cls bk bp : Int) : Bool := decide (1 ≤ cls ∧ cls ≤ 6 ∧ 0 ≤ bk ∧ bk < 6 ∧ 0 ≤ bp ∧ bp ≤ 10000)

theorem cutSet_ok {w : World} {b o : Nat} {r : Option Nat} {m : List ((Int × Int) × Int)} (hc : w.cell? ⟨b, o, none⟩ = some (.map r)) (hfz : w.frozen? ⟨b, o, none⟩ = false) (hm : StepMap w r m) (cls bk bp : Int) (h : stepOK cls bk bp = true) :
    Calls Tryd.prog 40 #[.pointer (some ⟨b, o, none⟩), pairV (cls, bk), .int .i64 bp] w fun e w' => e = .returned .nilIface ∧ ∃ r', StepMap w' r' (mput m (cls, bk) bp) ∧ MapField w w' b o r r' := by
  simp only [stepOK, decide_eq_true_eq] at h
  have k0 : decide (cls < 1) = false := decide_eq_false (by omega)
  have k1 : decide (6 < cls) = false := decide_eq_false (by omega)
  have k2 : decide (bk < 0) = false := decide_eq_false (by omega)
  have k3 : decide (6 ≤ bk) = false := decide_eq_false (by omega)
  have k4 : isBp bp = true := decide_eq_true (by omega)
  by_cases hne : m = []
  · subst hne
    refine (cutSet_none hc hfz hm cls bk bp k0 k1 k2 k3 k4).mono ?_
    rintro e w' ⟨rfl, nb, h1, h2⟩
    exact ⟨rfl, _, h1, h2⟩
  · rcases hm with ⟨_, h0⟩ | ⟨mb, rfl, hm⟩
    · exact absurd h0 hne
    · have hm' : StepMap w (some mb) m := .inr ⟨mb, rfl, hm⟩
      refine (cutSet_some hc hm' hne cls bk bp k0 k1 k2 k3 k4).mono ?_
      rintro e w' ⟨rfl, h1, h2⟩
      exact ⟨rfl, _, h1, MapV.field hc hm' h2⟩

theorem cutSet_f0 {w : World} (p : Nat → Addr) (ptr : Value) (cls bk bp : Int) (h2 : w.cell? ⟨0, 0, none⟩ = some (ev p 2)) (hlt : 0 < w.heap.size)
     (k0 : decide (cls < 1) = true) :
    Calls Tryd.prog 40 #[ptr, pairV (cls, bk), .int .i64 bp] w fun e w' => e = .returned (ev p 2) ∧ Below w.heap.size w w' := by
  unfold ev errV at h2
  go_enter Tryd.func40, Tryd.ntmps40
  go_wp2_with (go_at_call 80; refine (is_bp _ _).mono ?_; rintro e w1 ⟨rfl, rfl⟩; rw [k4])
  go_ret
  exact ⟨rfl, by (repeat (first | exact Below.refl _ _ | assumption | refine Below.drew ?_ | refine below_many ?_ _ | refine Below.alloc ?_ (by first | (simp; done) | (simp; omega) | omega) _ | refine Below.setCell ?_ (by first | (simp; done) | (simp; omega) | omega) _))⟩

theorem cutSet_f1 {w : World} (p : Nat → Addr) (ptr : Value) (cls bk bp : Int) (h2 : w.cell? ⟨0, 0, none⟩ = some (ev p 2)) (hlt : 0 < w.heap.size)
    (k0 : decide (cls < 1) = false) (k1 : decide (6 < cls) = true) :
    Calls Tryd.prog 40 #[ptr, pairV (cls, bk), .int .i64 bp] w fun e w' => e = .returned (ev p 2) ∧ Below w.heap.size w w' := by
  unfold ev errV at h2
  go_enter Tryd.func40, Tryd.ntmps40
  go_wp2_with (go_at_call 80; refine (is_bp _ _).mono ?_; rintro e w1 ⟨rfl, rfl⟩; rw [k4])
  go_ret
  exact ⟨rfl, by (repeat (first | exact Below.refl _ _ | assumption | refine Below.drew ?_ | refine below_many ?_ _ | refine Below.alloc ?_ (by first | (simp; done) | (simp; omega) | omega) _ | refine Below.setCell ?_ (by first | (simp; done) | (simp; omega) | omega) _))⟩

theorem cutSet_f2 {w : World} (p : Nat → Addr) (ptr : Value) (cls bk bp : Int) (h2 : w.cell? ⟨0, 0, none⟩ = some (ev p 2)) (hlt : 0 < w.heap.size)
    (k0 : decide (cls < 1) = false) (k1 : decide (6 < cls) = false) (k2 : decide (bk < 0) = true) :
    Calls Tryd.prog 40 #[ptr, pairV (cls, bk), .int .i64 bp] w fun e w' => e = .returned (ev p 2) ∧ Below w.heap.size w w' := by
  unfold ev errV at h2
  go_enter Tryd.func40, Tryd.ntmps40
  go_wp2_with (go_at_call 80; refine (is_bp _ _).mono ?_; rintro e w1 ⟨rfl, rfl⟩; rw [k4])
  go_ret
  exact ⟨rfl, by (repeat (first | exact Below.refl _ _ | assumption | refine Below.drew ?_ | refine below_many ?_ _ | refine Below.alloc ?_ (by first | (simp; done) | (simp; omega) | omega) _ | refine Below.setCell ?_ (by first | (simp; done) | (simp; omega) | omega) _))⟩

theorem cutSet_f3 {w : World} (p : Nat → Addr) (ptr : Value) (cls bk bp : Int) (h2 : w.cell? ⟨0, 0, none⟩ = some (ev p 2)) (hlt : 0 < w.heap.size)
    (k0 : decide (cls < 1) = false) (k1 : decide (6 < cls) = false) (k2 : decide (bk < 0) = false) (k3 : decide (6 ≤ bk) = true) :
    Calls Tryd.prog 40 #[ptr, pairV (cls, bk), .int .i64 bp] w fun e w' => e = .returned (ev p 2) ∧ Below w.heap.size w w' := by
  unfold ev errV at h2
  go_enter Tryd.func40, Tryd.ntmps40
  go_wp2_with (go_at_call 80; refine (is_bp _ _).mono ?_; rintro e w1 ⟨rfl, rfl⟩; rw [k4])
  go_ret
  exact ⟨rfl, by (repeat (first | exact Below.refl _ _ | assumption | refine Below.drew ?_ | refine below_many ?_ _ | refine Below.alloc ?_ (by first | (simp; done) | (simp; omega) | omega) _ | refine Below.setCell ?_ (by first | (simp; done) | (simp; omega) | omega) _))⟩

theorem cutSet_f4 {w : World} (p : Nat → Addr) (ptr : Value) (cls bk bp : Int) (h2 : w.cell? ⟨0, 0, none⟩ = some (ev p 2)) (hlt : 0 < w.heap.size)
    (k0 : decide (cls < 1) = false) (k1 : decide (6 < cls) = false) (k2 : decide (bk < 0) = false) (k3 : decide (6 ≤ bk) = false) (k4 : isBp bp = false) :
    Calls Tryd.prog 40 #[ptr, pairV (cls, bk), .int .i64 bp] w fun e w' => e = .returned (ev p 2) ∧ Below w.heap.size w w' := by
  unfold ev errV at h2
  go_enter Tryd.func40, Tryd.ntmps40
  go_wp2_with (go_at_call 80; refine (is_bp _ _).mono ?_; rintro e w1 ⟨rfl, rfl⟩; rw [k4])
  go_ret
  exact ⟨rfl, by (repeat (first | exact Below.refl _ _ | assumption | refine Below.drew ?_ | refine below_many ?_ _ | refine Below.alloc ?_ (by first | (simp; done) | (simp; omega) | omega) _ | refine Below.setCell ?_ (by first | (simp; done) | (simp; omega) | omega) _))⟩

theorem cutSet_bad {ks : List Nat} {B : Nat} {p : Nat → Addr} {w : World} (hE : Errs ks B p w) (hk : 2 ∈ ks) (ptr : Value) (cls bk bp : Int) (h : stepOK cls bk bp = false) :
    Calls Tryd.prog 40 #[ptr, pairV (cls, bk), .int .i64 bp] w fun e w' => e = .returned (ev p 2) ∧ Below w.heap.size w w' := by
  have h2 : w.cell? ⟨0, 0, none⟩ = some (ev p 2) := hE.cell 2 hk
  have hlt : 0 < w.heap.size := Nat.lt_of_lt_of_le (hE.lt 2 hk).1 hE.size
  simp only [stepOK, decide_eq_false_iff_not] at h
  by_cases c0 : cls < 1
  · exact cutSet_f0 p ptr cls bk bp h2 hlt  (decide_eq_true c0)
  by_cases c1 : 6 < cls
  · exact cutSet_f1 p ptr cls bk bp h2 hlt (decide_eq_false c0) (decide_eq_true c1)
  by_cases c2 : bk < 0
  · exact cutSet_f2 p ptr cls bk bp h2 hlt (decide_eq_false c0) (decide_eq_false c1) (decide_eq_true c2)
  by_cases c3 : 6 ≤ bk
  · exact cutSet_f3 p ptr cls bk bp h2 hlt (decide_eq_false c0) (decide_eq_false c1) (decide_eq_false c2) (decide_eq_true c3)
  exact cutSet_f4 p ptr cls bk bp h2 hlt (decide_eq_false c0) (decide_eq_false c1) (decide_eq_false c2) (decide_eq_false c3) (decide_eq_false (by omega))

theorem setFx_ok {w : World} {b o : Nat} {x : Int} (hc : w.cell? ⟨b, o + 1, none⟩ = some (.int .i64 x)) (hfz : w.frozen? ⟨b, o + 1, none⟩ = false) (bp : Int) (h : isBp bp = true) :
    Calls Tryd.prog 46 #[.pointer (some ⟨b, o, none⟩), .int .i64 bp] w fun e w' => e = .returned .nilIface ∧ w' = w.setCell ⟨b, o + 1, none⟩ (.int .i64 bp) := by
  go_enter Tryd.func46, Tryd.ntmps46
  go_wp2_with (go_at_call 80; refine (is_bp _ _).mono ?_; rintro e w1 ⟨rfl, rfl⟩; rw [h])
  go_ret
  exact ⟨rfl, rfl⟩

theorem setFx_bad {ks : List Nat} {B : Nat} {p : Nat → Addr} {w : World} (hE : Errs ks B p w) (hk : 2 ∈ ks) (ptr : Value) (bp : Int) (h : isBp bp = false) :
    Calls Tryd.prog 46 #[ptr, .int .i64 bp] w fun e w' => e = .returned (ev p 2) ∧ w' = w := by
  have h2 : w.cell? ⟨0, 0, none⟩ = some (ev p 2) := hE.cell 2 hk
  unfold ev errV at h2
  clear hE hk
  go_enter Tryd.func46, Tryd.ntmps46
  go_wp2_with (go_at_call 80; refine (is_bp _ _).mono ?_; rintro e w1 ⟨rfl, rfl⟩; rw [h])
  go_ret
  exact ⟨rfl, rfl⟩

theorem fx_calls {w : World} {b o : Nat} {x : Int} (hc : w.cell? ⟨b, o + 1, none⟩ = some (.int .i64 x)) :
    Calls Tryd.prog 43 #[.pointer (some ⟨b, o, none⟩)] w fun e w' => e = .returned (.int .i64 x) ∧ w' = w := by
  go_enter Tryd.func43, Tryd.ntmps43
  go_wp2
  go_ret
  exact ⟨rfl, rfl⟩

/-- The bucket that so many days are in. -/
def bucketN (d : Int) : Int := if d < 30 then 0 else if d < 90 then 1 else if d < 365 then 2 else if d < 1095 then 3 else if d < 3650 then 4 else 5
def bnds : List Int := [30, 90, 365, 1095, 3650]

theorem bucket_calls (d : Int) (w : World) : Calls Tryd.prog 116 #[.int .i64 d] w fun e w' => e = .returned (.int .i64 (bucketN d)) ∧ Below w.heap.size w w' := by
  have hb : Hid (bucketN d = if d < 30 then 0 else if d < 90 then 1 else if d < 365 then 2 else if d < 1095 then 3 else if d < 3650 then 4 else 5) := rfl
  go_enter Tryd.func116, Tryd.ntmps116
  go_wp2_with fail
  go_loop [7, 3, 4] (fun i _ _ => ∃ m : Nat, m ≤ 5 ∧ i = .int .i64 m ∧ Hid ((1 ≤ m → 30 ≤ d) ∧ (2 ≤ m → 90 ≤ d) ∧ (3 ≤ m → 365 ≤ d) ∧ (4 ≤ m → 1095 ≤ d) ∧ (5 ≤ m → 3650 ≤ d))) (fun i _ _ => 5 - (intOf i).toNat)
  case atStart => exact ⟨0, by omega, rfl, by unfold Hid; omega⟩
  case round =>
    obtain ⟨m, hm, rfl, hr⟩ := hrel
    rcases (show m = 0 ∨ m = 1 ∨ m = 2 ∨ m = 3 ∨ m = 4 ∨ m = 5 by omega) with rfl | rfl | rfl | rfl | rfl | rfl
    · by_cases hd : d < 30
      · go_wp2
        go_ret
        exact ⟨congrArg (fun x => Ending.returned (Value.int .i64 x)) (by have := hr.out; rw [hb.out]; (repeat' split) <;> simp <;> omega), by (repeat (first | exact Below.refl _ _ | assumption | refine Below.drew ?_ | refine below_many ?_ _ | refine Below.alloc ?_ (by first | (simp; done) | (simp; omega) | omega) _ | refine Below.setCell ?_ (by first | (simp; done) | (simp; omega) | omega) _))⟩
      · go_wp2
        go_round
        case rel => exact ⟨1, by omega, by go_num, by have := hr.out; unfold Hid; omega⟩
        case measure => simp [intOf]
    · by_cases hd : d < 90
      · go_wp2
        go_ret
        exact ⟨congrArg (fun x => Ending.returned (Value.int .i64 x)) (by have := hr.out; rw [hb.out]; (repeat' split) <;> simp <;> omega), by (repeat (first | exact Below.refl _ _ | assumption | refine Below.drew ?_ | refine below_many ?_ _ | refine Below.alloc ?_ (by first | (simp; done) | (simp; omega) | omega) _ | refine Below.setCell ?_ (by first | (simp; done) | (simp; omega) | omega) _))⟩
      · go_wp2
        go_round
        case rel => exact ⟨2, by omega, by go_num, by have := hr.out; unfold Hid; omega⟩
        case measure => simp [intOf]
    · by_cases hd : d < 365
      · go_wp2
        go_ret
        exact ⟨congrArg (fun x => Ending.returned (Value.int .i64 x)) (by have := hr.out; rw [hb.out]; (repeat' split) <;> simp <;> omega), by (repeat (first | exact Below.refl _ _ | assumption | refine Below.drew ?_ | refine below_many ?_ _ | refine Below.alloc ?_ (by first | (simp; done) | (simp; omega) | omega) _ | refine Below.setCell ?_ (by first | (simp; done) | (simp; omega) | omega) _))⟩
      · go_wp2
        go_round
        case rel => exact ⟨3, by omega, by go_num, by have := hr.out; unfold Hid; omega⟩
        case measure => simp [intOf]
    · by_cases hd : d < 1095
      · go_wp2
        go_ret
        exact ⟨congrArg (fun x => Ending.returned (Value.int .i64 x)) (by have := hr.out; rw [hb.out]; (repeat' split) <;> simp <;> omega), by (repeat (first | exact Below.refl _ _ | assumption | refine Below.drew ?_ | refine below_many ?_ _ | refine Below.alloc ?_ (by first | (simp; done) | (simp; omega) | omega) _ | refine Below.setCell ?_ (by first | (simp; done) | (simp; omega) | omega) _))⟩
      · go_wp2
        go_round
        case rel => exact ⟨4, by omega, by go_num, by have := hr.out; unfold Hid; omega⟩
        case measure => simp [intOf]
    · by_cases hd : d < 3650
      · go_wp2
        go_ret
        exact ⟨congrArg (fun x => Ending.returned (Value.int .i64 x)) (by have := hr.out; rw [hb.out]; (repeat' split) <;> simp <;> omega), by (repeat (first | exact Below.refl _ _ | assumption | refine Below.drew ?_ | refine below_many ?_ _ | refine Below.alloc ?_ (by first | (simp; done) | (simp; omega) | omega) _ | refine Below.setCell ?_ (by first | (simp; done) | (simp; omega) | omega) _))⟩
      · go_wp2
        go_round
        case rel => exact ⟨5, by omega, by go_num, by have := hr.out; unfold Hid; omega⟩
        case measure => simp [intOf]
    · go_wp2
      go_ret
      exact ⟨congrArg (fun x => Ending.returned (Value.int .i64 x)) (by have := hr.out; rw [hb.out]; (repeat' split) <;> simp <;> omega), by (repeat (first | exact Below.refl _ _ | assumption | refine Below.drew ?_ | refine below_many ?_ _ | refine Below.alloc ?_ (by first | (simp; done) | (simp; omega) | omega) _ | refine Below.setCell ?_ (by first | (simp; done) | (simp; omega) | omega) _))⟩

/-- An asset's bucket. -/
def bucketA (cls en left : Int) : Int := if cls = 1 then 0 else if en = 0 then 5 else bucketN left
theorem bucketOf_calls (id iss cls mon en left : Int) (w : World) : Calls Tryd.prog 88 #[assetV id iss cls mon en, .int .i64 left] w fun e w' => e = .returned (.int .i64 (bucketA cls en left)) ∧ Below w.heap.size w w' := by
  by_cases h1 : cls = 1
  · have k1 : (cls == 1) = true := by simpa using h1
    rw [show bucketA cls en left = 0 by simp [bucketA, h1]]
    clear h1
    go_enter Tryd.func88, Tryd.ntmps88
    go_wp2_with fail
    refine (cash_calls _ _ _ _ _ _).mono ?_
    rintro e w1 ⟨rfl, hb⟩
    rw [k1]
    have h0 := bbase (w := w) (by (repeat (first | exact Below.refl _ _ | assumption | refine Below.drew ?_ | refine below_many ?_ _ | refine Below.alloc ?_ (by first | (simp; done) | (simp; omega) | omega) _ | refine Below.setCell ?_ (by first | (simp; done) | (simp; omega) | omega) _))) hb
    go_wp2_with fail
    go_ret
    exact ⟨rfl, h0⟩
  · have k1 : (cls == 1) = false := by simpa using h1
    by_cases h2 : en = 0
    · have k2 : (en == 0) = true := by simpa using h2
      rw [show bucketA cls en left = 5 by simp [bucketA, h1, h2]]
      clear h1 h2
      go_enter Tryd.func88, Tryd.ntmps88
      go_wp2_with fail
      refine (cash_calls _ _ _ _ _ _).mono ?_
      rintro e w1 ⟨rfl, hb⟩
      rw [k1]
      have h0 := bbase (w := w) (by (repeat (first | exact Below.refl _ _ | assumption | refine Below.drew ?_ | refine below_many ?_ _ | refine Below.alloc ?_ (by first | (simp; done) | (simp; omega) | omega) _ | refine Below.setCell ?_ (by first | (simp; done) | (simp; omega) | omega) _))) hb
      obtain ⟨hc, hf⟩ := bcell hb
      go_wp2_with fail
      go_ret
      exact ⟨rfl, h0⟩
    · have k2 : (en == 0) = false := by simpa using h2
      rw [show bucketA cls en left = bucketN left by simp [bucketA, h1, h2]]
      clear h1 h2
      go_enter Tryd.func88, Tryd.ntmps88
      go_wp2_with fail
      refine (cash_calls _ _ _ _ _ _).mono ?_
      rintro e w1 ⟨rfl, hb⟩
      rw [k1]
      have h0 := bbase (w := w) (by (repeat (first | exact Below.refl _ _ | assumption | refine Below.drew ?_ | refine below_many ?_ _ | refine Below.alloc ?_ (by first | (simp; done) | (simp; omega) | omega) _ | refine Below.setCell ?_ (by first | (simp; done) | (simp; omega) | omega) _))) hb
      obtain ⟨hc, hf⟩ := bcell hb
      go_wp2_with fail
      refine (bucket_calls _ _).mono ?_
      rintro e w2 ⟨rfl, hb2⟩
      go_wp2_with fail
      go_ret
      exact ⟨rfl, h0.trans (hb2.mono (h0.size))⟩

def ofN (m : List ((Int × Int) × Int)) (fx id iss cls mon en td : Int) : Int :=
  if validA id iss cls mon en then
    if liveB en td then min (((mget m (cls, bucketA cls en (leftN en td))).getD 0) + (if mon = 1 then 0 else fx)) 10000 else 10000
  else 0
theorem bucketA_bd (cls en left : Int) : 0 ≤ bucketA cls en left ∧ bucketA cls en left ≤ 5 := by
  unfold bucketA bucketN
  (repeat' split) <;> omega
theorem get_bd {m : List ((Int × Int) × Int)} (h : ∀ x ∈ m, 0 ≤ x.2 ∧ x.2 ≤ 10000) (k : Int × Int) : 0 ≤ (mget m k).getD 0 ∧ (mget m k).getD 0 ≤ 10000 := by
  cases hg : mget m k with
  | none => simp
  | some v => have := h _ (mget_mem hg); simpa using this

set_option maxRecDepth 100000 in
theorem cutOf_calls {ks : List Nat} {B : Nat} {p : Nat → Addr} {w : World} (hE : Errs ks B p w) (hk : 2 ∈ ks) {b o : Nat} {r : Option Nat} {m : List ((Int × Int) × Int)} {fx : Int}
    (hc : w.cell? ⟨b, o, none⟩ = some (.map r)) (hx : w.cell? ⟨b, o + 1, none⟩ = some (.int .i64 fx)) (hm : StepMap w r m) (hfx : 0 ≤ fx ∧ fx ≤ 10000) (hbd : ∀ x ∈ m, 0 ≤ x.2 ∧ x.2 ≤ 10000) (id iss cls mon en td : Int) :
    Calls Tryd.prog 44 #[.pointer (some ⟨b, o, none⟩), assetV id iss cls mon en, .int .i64 td] w fun e w' => e = .returned (.int .i64 (ofN m fx id iss cls mon en td)) ∧ Below w.heap.size w w' := by
  have hlt : b < w.heap.size := World.block_lt_of_cell? w ⟨b, o, none⟩ hc
  have HE := Lib.hid hE
  clear hE
  have HB0 : Below w.heap.size w (w.alloc (Obj.cells #[.int .i64 id, .int .i64 iss, .int .i64 cls, .int .i64 mon, .int .i64 en] 74)) := by (repeat (first | exact Below.refl _ _ | assumption | refine Below.drew ?_ | refine below_many ?_ _ | refine Below.alloc ?_ (by first | (simp; done) | (simp; omega) | omega) _ | refine Below.setCell ?_ (by first | (simp; done) | (simp; omega) | omega) _))
  by_cases hv : validA id iss cls mon en = true
  · by_cases hl : liveB en td = true
    · have hbk := bucketA_bd cls en (leftN en td)
      have hgt := get_bd hbd (cls, bucketA cls en (leftN en td))
      have hcl : 1 ≤ cls ∧ cls ≤ 6 := by simp only [validA, decide_eq_true_eq] at hv; omega
      have Hr : Hid (ofN m fx id iss cls mon en td = min (((mget m (cls, bucketA cls en (leftN en td))).getD 0) + (if mon = 1 then 0 else fx)) 10000) := by simp [Hid, ofN, hv, hl]
      have Hm := Lib.hid hm
      have Hc := Lib.hid hc
      have Hx := Lib.hid hx
      have Hv := Lib.hid hv
      have Hl := Lib.hid hl
      have wc : (Lit.int .i64 cls).wf = true := i64wf (by omega) (by omega)
      have wb : (Lit.int .i64 (bucketA cls en (leftN en td))).wf = true := i64wf (by omega) (by omega)
      have Wc := Lib.hid wc
      have Wb := Lib.hid wb
      clear hm hc hx hv hl wc wb hbd hbk
      generalize hv0 : (mget m (cls, bucketA cls en (leftN en td))).getD 0 = g at hgt Hr
      have Hv0 := Lib.hid hv0
      clear hv0
      go_enter Tryd.func44, Tryd.ntmps44
      go_wp2_with fail
      refine (valid_calls (HE.out.below (HB0.mono HE.out.size)) hk _ _ _ _ _).mono ?_
      rintro e w1 ⟨rfl, hb⟩
      rw [validV_ok Hv.out]
      have HB1 := bbase HB0 hb
      obtain ⟨hc, hf⟩ := bcell hb
      have hs1 : w.heap.size < w1.heap.size := by have := hb.size; simp at this; omega
      clear hb HB0
      go_wp2_with fail
      refine (left_calls _ _ _).mono ?_
      rintro e w2 ⟨rfl, rfl⟩
      rw [Hl.out]
      go_wp2_with fail
      go_region_held3 (fun w2 => w2.cell? ⟨w.heap.size, 0, none⟩ = some (.int .i64 id) ∧ w2.cell? ⟨w.heap.size, 1, none⟩ = some (.int .i64 iss) ∧ w2.cell? ⟨w.heap.size, 2, none⟩ = some (.int .i64 cls) ∧ w2.cell? ⟨w.heap.size, 3, none⟩ = some (.int .i64 mon) ∧ w2.cell? ⟨w.heap.size, 4, none⟩ = some (.int .i64 en) ∧ Below w.heap.size w w2 ∧ w.heap.size < w2.heap.size)
        (((repeat' apply And.intro) <;> (first | (exact hB.trans (hb.mono (by omega))) | (have hsz := hb.size; omega) | (rw [hb.cell (p := ⟨_, _, none⟩) (by first | assumption | (simp; done))]; assumption) | assumption | (exact below_many HB1 1) | (simp [*]; done))))
        (first | (go_at_call 88; obtain ⟨hc0, hc1, hc2, hc3, hc4, hB, hs⟩ := ‹_ ∧ _›; refine (bucketOf_calls _ _ _ _ _ _ _).mono ?_; rintro e w1 ⟨rfl, hb⟩) | (go_at_call 41; obtain ⟨hc0, hc1, hc2, hc3, hc4, hB, hs⟩ := ‹_ ∧ _›; refine (cutGet_calls ((hB.cell (p := ⟨b, o, none⟩) hlt).trans Hc.out) (Hm.out.below hB) _ _ Wc.out Wb.out).mono ?_; rintro e w1 ⟨rfl, hb⟩; rw [Hv0.out]))
      obtain ⟨hc0, hc1, hc2, hc3, hc4, hB, hs⟩ := ‹_ ∧ _›
      have hxx := (hB.cell (p := ⟨b, o + 1, none⟩) hlt).trans Hx.out
      have HBl := Lib.hid hB
      clear hB
      by_cases h1 : mon = 1
      · have k1 : (mon != 1) = false := by simp [h1]
        have Hr' : Hid (ofN m fx id iss cls mon en td = min g 10000) := by rw [Hid, Hr.out]; simp [h1]
        clear h1 Hr
        go_wp2_with fail
        all_goals
          go_ret
          refine ⟨?_, HBl.out⟩
          rw [Hr'.out]
          exact congrArg (fun x : Int => Ending.returned (Value.int .i64 x)) (by omega)
      · have k1 : (mon != 1) = true := by simpa using h1
        have Hr' : Hid (ofN m fx id iss cls mon en td = min (g + fx) 10000) := by rw [Hid, Hr.out]; simp [h1]
        clear h1 Hr
        go_wp2_with fail
        all_goals
          go_ret
          refine ⟨?_, HBl.out⟩
          rw [Hr'.out]
          exact congrArg (fun x : Int => Ending.returned (Value.int .i64 x)) (by omega)
    · have Hr : ofN m fx id iss cls mon en td = 10000 := by simp [ofN, hv, hl]
      rw [Hr]
      have Hv := Lib.hid hv
      have hl' : liveB en td = false := by simpa using hl
      have Hl := Lib.hid hl'
      clear hv hl hl' hm hc hx hbd Hr
      go_enter Tryd.func44, Tryd.ntmps44
      go_wp2_with fail
      refine (valid_calls (HE.out.below (HB0.mono HE.out.size)) hk _ _ _ _ _).mono ?_
      rintro e w1 ⟨rfl, hb⟩
      rw [validV_ok Hv.out]
      have HB1 := bbase HB0 hb
      obtain ⟨hc, hf⟩ := bcell hb
      have hs1 : w.heap.size < w1.heap.size := by have := hb.size; simp at this; omega
      clear hb HB0
      go_wp2_with fail
      refine (left_calls _ _ _).mono ?_
      rintro e w2 ⟨rfl, rfl⟩
      rw [Hl.out]
      go_wp2_with fail
      go_ret
      exact ⟨rfl, HB1⟩
  · have Hr : ofN m fx id iss cls mon en td = 0 := by simp [ofN, hv]
    rw [Hr]
    have hv' : validA id iss cls mon en = false := by simpa using hv
    have Hv := Lib.hid hv'
    clear hv hv' hm hc hx hbd Hr
    go_enter Tryd.func44, Tryd.ntmps44
    go_wp2_with fail
    refine (valid_calls (HE.out.below (HB0.mono HE.out.size)) hk _ _ _ _ _).mono ?_
    rintro e w1 ⟨rfl, hb⟩
    rw [validV_bad Hv.out]
    unfold ev errV
    have HB1 := bbase HB0 hb
    clear hb HB0
    go_wp2_with fail
    go_ret
    exact ⟨rfl, HB1⟩

end Go.Proofs.YtehacchacgfjlaaDoor
