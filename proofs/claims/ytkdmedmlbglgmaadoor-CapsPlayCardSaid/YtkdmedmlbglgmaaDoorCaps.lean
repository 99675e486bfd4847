/- Package caps: most, amount, fits, Get, capped, add, the three closures: what each call returns and what it leaves. -/
import Derived.Test.YtkdmedmlbglgmaaDoorTotal
import Derived.Test.YtkdmedmlbglgmaaDoorRange
import Derived.Test.YtkdmedmlbglgmaaDoorCapsLaw
import Derived.Test.YtkdmedmlbglgmaaDoorTrip
import Derived.Deep.RegionWith
namespace Go.Proofs.YtkdmedmlbglgmaaDoor
open Go.Maps
open Go Go.RowKit
set_option linter.unusedSimpArgs false
set_option linter.unusedVariables false

theorem limKeyed : Keyed Tryd.prog 30 := Keyed.of_law (deep_law_laid (by kernel_rfl) (m := 2) (by omega) (of_decide_eq_true (by kernel_rfl)) (by kernel_rfl) (by rw [Tryd.underlying30]))
theorem limKey (k : Int × Int) (h1 : (Lit.int .i64 k.1).wf = true) (h2 : (Lit.int .i64 k.2).wf = true) : ∃ l, keyOf Tryd.prog 30 (pairV k) = some l :=
  pairKey Tryd.underlying30 rfl rfl rfl rfl (by decide) (by decide) Tryd.underlying3 (by kernel_rfl) (by kernel_rfl) (by kernel_rfl) h1 h2 ⟨Tryd.prog.types.size - 1, by have : 0 < Tryd.prog.types.size := of_decide_eq_true (by kernel_rfl); omega⟩
theorem grpKeyed : Keyed Tryd.prog 89 := Keyed.of_law (deep_law_laid (by kernel_rfl) (m := 3) (by omega) (of_decide_eq_true (by kernel_rfl)) (by kernel_rfl) (by rw [Tryd.underlying89]))
theorem grpKey (k : G) (h1 : (Lit.int .i64 k.1).wf = true) (h2 : (Lit.int .i64 k.2.1).wf = true) (h3 : (Lit.int .i64 k.2.2).wf = true) : ∃ l, keyOf Tryd.prog 89 (tripV k) = some l :=
  tripKey Tryd.underlying89 rfl rfl rfl rfl rfl rfl (by decide) (by decide) (by decide) Tryd.underlying3 (by kernel_rfl) (by kernel_rfl) (by kernel_rfl) h1 h2 h3 ⟨Tryd.prog.types.size - 1, by have : 0 < Tryd.prog.types.size := of_decide_eq_true (by kernel_rfl); omega⟩
/-- Limits in memory; sums by groups in memory. -/
abbrev LimMap (w : World) (r : Option Nat) (m : Lims) : Prop := MapV Tryd.prog 30 pairV i64V w r m
abbrev GrpMap (w : World) (r : Option Nat) (m : List (G × Int)) : Prop := MapV Tryd.prog 89 tripV i64V w r m
abbrev GrpRng (w : World) (mb : Option Nat) (r : Nat) (m left : List (G × Int)) : Prop := Rng Tryd.prog 89 tripV i64V w mb r m left
/-- The three numbers of a group are ints. -/
def gwf (g : G) : Prop := (Lit.int .i64 g.1).wf = true ∧ (Lit.int .i64 g.2.1).wf = true ∧ (Lit.int .i64 g.2.2).wf = true

theorem lim_look {w : World} {r : Option Nat} {m : Lims} (h : LimMap w r m) (a b : Int) (h1 : (Lit.int .i64 a).wf = true) (h2 : (Lit.int .i64 b).wf = true) :
    (Instr.lookup 23 (.map r) (.agg #[.int .i64 a, .int .i64 b]) false).run Tryd.prog w = .ok (.int .i64 (lim m a b)) w := by
  have := h.look limKeyed pairV_inj Tryd.underlying23 (z := .int .i64 0) (by kernel_rfl) (k := (a, b)) (limKey _ h1 h2)
  rw [this]
  unfold lim
  cases mget m (a, b) <;> rfl
theorem grp_look {w : World} {r : Option Nat} {m : List (G × Int)} (h : GrpMap w r m) (a b c : Int) (hw : gwf (a, b, c)) :
    (Instr.lookup 86 (.map r) (.agg #[.int .i64 a, .int .i64 b, .int .i64 c]) false).run Tryd.prog w = .ok (.int .i64 ((mget m (a, b, c)).getD 0)) w := by
  have := h.look grpKeyed tripV_inj Tryd.underlying86 (z := .int .i64 0) (by kernel_rfl) (k := (a, b, c)) (grpKey _ hw.1 hw.2.1 hw.2.2)
  rw [this]
  cases mget m (a, b, c) <;> rfl
set_option maxRecDepth 100000 in
theorem grp_store {w : World} {b : Nat} {m : List (G × Int)} (h : GrpMap w (some b) m) (x y z v : Int) (hw : gwf (x, y, z)) :
    ∃ w', (Instr.mapUpdate 86 (.map (some b)) (.agg #[.int .i64 x, .int .i64 y, .int .i64 z]) (.int .i64 v)).run Tryd.prog w = .ok () w' ∧ GrpMap w' (some b) (mput m (x, y, z) v) ∧ Keep (fun x => x = b) w w' ∧ w'.heap.size = w.heap.size :=
  MapV.store (kv := tripV) (vv := i64V) grpKeyed tripV_inj Tryd.underlying86 h v (grpKey (x, y, z) hw.1 hw.2.1 hw.2.2)

theorem capsAmount_calls (n : Int) (w : World) : Calls Tryd.prog 32 #[.int .i64 n] w fun e w' => e = .returned (.bool (isAmt n)) ∧ w = w' := by
  by_cases h : 0 ≤ n
  · have h' : decide (0 ≤ n) = true := decide_eq_true h
    rw [show isAmt n = decide (n ≤ 1000000000000000) from decide_eq_decide.2 (by omega)]
    go_enter Tryd.func32, Tryd.ntmps32
    go_wp2
    go_ret
    exact ⟨rfl, rfl⟩
  · have h' : decide (0 ≤ n) = false := decide_eq_false h
    rw [show isAmt n = false from decide_eq_false (by omega)]
    go_enter Tryd.func32, Tryd.ntmps32
    go_wp2
    go_ret
    exact ⟨rfl, rfl⟩

/-- The greatest number of what a limit may be of. -/
def mostOf (a : Int) : Int := if a = 1 then 6 else if a = 2 then 6 else if a = 3 then 32 else 0
theorem most_calls (a : Int) (w : World) : Calls Tryd.prog 31 #[.int .i64 a] w fun e w' => e = .returned (.int .i64 (mostOf a)) ∧ w = w' := by
  by_cases h1 : a = 1
  · subst h1
    go_enter Tryd.func31, Tryd.ntmps31
    go_wp2
    go_ret
    exact ⟨rfl, rfl⟩
  by_cases h2 : a = 2
  · subst h2
    go_enter Tryd.func31, Tryd.ntmps31
    go_wp2
    go_ret
    exact ⟨rfl, rfl⟩
  by_cases h3 : a = 3
  · subst h3
    go_enter Tryd.func31, Tryd.ntmps31
    go_wp2
    go_ret
    exact ⟨rfl, rfl⟩
  rw [show mostOf a = 0 by simp [mostOf, h1, h2, h3]]
  go_enter Tryd.func31, Tryd.ntmps31
  go_wp2
  go_ret
  exact ⟨rfl, rfl⟩

theorem capsGet_calls {w : World} {b o : Nat} {r : Option Nat} {m : Lims} (hc : w.cell? ⟨b, o, none⟩ = some (.map r)) (hm : LimMap w r m) (s k : Int) (h1 : (Lit.int .i64 s).wf = true) (h2 : (Lit.int .i64 k).wf = true) :
    Calls Tryd.prog 17 #[.pointer (some ⟨b, o, none⟩), pairV (s, k)] w fun e w' => e = .returned (.int .i64 (lim m s k)) ∧ Below w.heap.size w w' := by
  have hlt : b < w.heap.size := World.block_lt_of_cell? w ⟨b, o, none⟩ hc
  have hl : ∀ n, (Instr.lookup 23 (.map r) (.agg #[.int .i64 s, .int .i64 k]) false).run Tryd.prog ((w.alloc (Obj.cells #[.int .i64 s, .int .i64 k] 30)).drewN n) = .ok (.int .i64 (lim m s k)) ((w.alloc (Obj.cells #[.int .i64 s, .int .i64 k] 30)).drewN n) :=
    fun n => lim_look ((hm.alloc _).drewN n) s k h1 h2
  clear hm h1 h2
  generalize lim m s k = v at hl ⊢
  go_enter Tryd.func17, Tryd.ntmps17
  go_wp2_with fail
  go_quiet (fail)
  go_wp2_with fail
  go_ret
  exact ⟨rfl, by (repeat (first | exact Below.refl _ _ | assumption | refine Below.drew ?_ | refine below_many ?_ _ | refine Below.alloc ?_ (by first | (simp; done) | (simp; omega) | omega) _ | refine Below.setCell ?_ (by first | (simp; done) | (simp; omega) | omega) _))⟩

theorem capped_calls {w : World} {b o : Nat} {r : Option Nat} {m : Lims} (hc : w.cell? ⟨b, o, none⟩ = some (.map r)) (hm : LimMap w r m) (s k n : Int) (h1 : (Lit.int .i64 s).wf = true) (h2 : (Lit.int .i64 k).wf = true) :
    Calls Tryd.prog 70 #[.pointer (some ⟨b, o, none⟩), pairV (s, k), .int .i64 n] w fun e w' => e = .returned (.int .i64 (cut (lim m s k) n)) ∧ Below w.heap.size w w' := by
  have hlt : b < w.heap.size := World.block_lt_of_cell? w ⟨b, o, none⟩ hc
  have hl : ∀ q, (Instr.lookup 23 (.map r) (.agg #[.int .i64 s, .int .i64 k]) false).run Tryd.prog ((w.alloc (Obj.cells #[.int .i64 s, .int .i64 k] 30)).drewN q) = .ok (.int .i64 (lim m s k)) ((w.alloc (Obj.cells #[.int .i64 s, .int .i64 k] 30)).drewN q) :=
    fun q => lim_look ((hm.alloc _).drewN q) s k h1 h2
  clear hm h1 h2
  generalize lim m s k = v at hl ⊢
  by_cases hv : 0 < v
  · have hd : decide (0 < v) = true := decide_eq_true hv
    by_cases hn : n ≤ v
    · rw [show cut v n = n by unfold cut; rw [if_pos hv]; omega]
      go_enter Tryd.func70, Tryd.ntmps70
      go_wp2_with fail
      go_quiet (fail)
      go_wp2_with fail
      all_goals go_ret
      all_goals first | exact ⟨rfl, by (repeat (first | exact Below.refl _ _ | assumption | refine Below.drew ?_ | refine below_many ?_ _ | refine Below.alloc ?_ (by first | (simp; done) | (simp; omega) | omega) _ | refine Below.setCell ?_ (by first | (simp; done) | (simp; omega) | omega) _))⟩ | (exfalso; omega)
    · rw [show cut v n = v by unfold cut; rw [if_pos hv]; omega]
      go_enter Tryd.func70, Tryd.ntmps70
      go_wp2_with fail
      go_quiet (fail)
      go_wp2_with fail
      all_goals go_ret
      all_goals first | exact ⟨rfl, by (repeat (first | exact Below.refl _ _ | assumption | refine Below.drew ?_ | refine below_many ?_ _ | refine Below.alloc ?_ (by first | (simp; done) | (simp; omega) | omega) _ | refine Below.setCell ?_ (by first | (simp; done) | (simp; omega) | omega) _))⟩ | (exfalso; omega)
  · have hd : decide (0 < v) = false := decide_eq_false hv
    rw [show cut v n = n by unfold cut; rw [if_neg hv]]
    go_enter Tryd.func70, Tryd.ntmps70
    go_wp2_with fail
    go_quiet (fail)
    go_wp2_with fail
    go_ret
    exact ⟨rfl, by (repeat (first | exact Below.refl _ _ | assumption | refine Below.drew ?_ | refine below_many ?_ _ | refine Below.alloc ?_ (by first | (simp; done) | (simp; omega) | omega) _ | refine Below.setCell ?_ (by first | (simp; done) | (simp; omega) | omega) _))⟩

/-- The closures that Sum hands to step: the limit, and the greater group. -/
theorem clo1_calls (g : G) (w : World) : Calls Tryd.prog 35 #[tripV g] w fun e w' => e = .returned (.tuple #[pairV (3, g.2.2), tripV (toI g)]) ∧ Below w.heap.size w w' := by
  obtain ⟨x, y, z⟩ := g
  go_enter Tryd.func35, Tryd.ntmps35
  go_wp2_with fail
  go_region_held3 (fun w' => w'.cell? ⟨w.heap.size, 0, none⟩ = some (.int .i64 x) ∧ w'.cell? ⟨w.heap.size, 1, none⟩ = some (.int .i64 y) ∧ w'.cell? ⟨w.heap.size, 2, none⟩ = some (.int .i64 z)) ((repeat' apply And.intro) <;> go_simp) (fail)
  go_wp2_with fail
  exact bodyPost_ret (v := .tuple #[pairV (3, z), tripV (x, y, 0)]) (by simp [results, Tryd.results35, go_sem]) rfl ⟨rfl, by (repeat (first | exact Below.refl _ _ | assumption | refine Below.drew ?_ | refine below_many ?_ _ | refine Below.alloc ?_ (by first | (simp; done) | (simp; omega) | omega) _ | refine Below.setCell ?_ (by first | (simp; done) | (simp; omega) | omega) _))⟩
theorem clo2_calls (g : G) (w : World) : Calls Tryd.prog 36 #[tripV g] w fun e w' => e = .returned (.tuple #[pairV (2, g.2.1), tripV (toM g)]) ∧ Below w.heap.size w w' := by
  obtain ⟨x, y, z⟩ := g
  go_enter Tryd.func36, Tryd.ntmps36
  go_wp2_with fail
  go_region_held3 (fun w' => w'.cell? ⟨w.heap.size, 0, none⟩ = some (.int .i64 x) ∧ w'.cell? ⟨w.heap.size, 1, none⟩ = some (.int .i64 y) ∧ w'.cell? ⟨w.heap.size, 2, none⟩ = some (.int .i64 z)) ((repeat' apply And.intro) <;> go_simp) (fail)
  go_wp2_with fail
  exact bodyPost_ret (v := .tuple #[pairV (2, y), tripV (x, 0, 0)]) (by simp [results, Tryd.results36, go_sem]) rfl ⟨rfl, by (repeat (first | exact Below.refl _ _ | assumption | refine Below.drew ?_ | refine below_many ?_ _ | refine Below.alloc ?_ (by first | (simp; done) | (simp; omega) | omega) _ | refine Below.setCell ?_ (by first | (simp; done) | (simp; omega) | omega) _))⟩
theorem clo3_calls (g : G) (w : World) : Calls Tryd.prog 37 #[tripV g] w fun e w' => e = .returned (.tuple #[pairV (1, g.1), tripV (toC g)]) ∧ Below w.heap.size w w' := by
  obtain ⟨x, y, z⟩ := g
  go_enter Tryd.func37, Tryd.ntmps37
  go_wp2_with fail
  exact bodyPost_ret (v := .tuple #[pairV (1, x), tripV (0, 0, 0)]) (by simp [results, Tryd.results37, go_sem]) rfl ⟨rfl, by (repeat (first | exact Below.refl _ _ | assumption | refine Below.drew ?_ | refine below_many ?_ _ | refine Below.alloc ?_ (by first | (simp; done) | (simp; omega) | omega) _ | refine Below.setCell ?_ (by first | (simp; done) | (simp; omega) | omega) _))⟩

end Go.Proofs.YtkdmedmlbglgmaaDoor
