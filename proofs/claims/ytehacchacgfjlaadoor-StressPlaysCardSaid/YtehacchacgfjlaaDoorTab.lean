/- stress.Set, and a table in memory as a whole. -/
import Derived.Test.YtehacchacgfjlaaDoorCover
namespace Go.Proofs.YtehacchacgfjlaaDoor
open Go.Maps
open Go Go.RowKit
set_option linter.unusedSimpArgs false
set_option linter.unusedVariables false

def cellOK (s k v : Int) : Bool := decide (1 ≤ s ∧ s ≤ 16 ∧ 1 ≤ k ∧ k ≤ 32 ∧ 0 ≤ v ∧ v ≤ 1000000000000000)
/-- What Set makes of the losses. -/
def mset (m : List ((Int × Int) × Int)) (k : Int × Int) (v : Int) : List ((Int × Int) × Int) := if v = 0 then mdel (mput m k v) k else mput m k v

set_option maxRecDepth 100000 in
theorem tabSet_some1 {w : World} {b o mb : Nat} {m : List ((Int × Int) × Int)} (hc : w.cell? ⟨b, o, none⟩ = some (.map (some mb))) (hm : CellMap w (some mb) m) (hne : m ≠ []) (s k v : Int)
    (k0 : isScene s = true) (k1 : decide (k < 1) = false) (k2 : decide (32 < k) = false) (k3 : isAmt v = true) (k4 : decide (v = 0) = false) :
    Calls Tryd.prog 52 #[.pointer (some ⟨b, o, none⟩), pairV (s, k), .int .i64 v] w fun e w' => e = .returned .nilIface ∧ CellMap w' (some mb) (mput m (s, k) v) ∧ Keep (fun x => x = mb) w w' := by
  have hlt : b < w.heap.size := World.block_lt_of_cell? w ⟨b, o, none⟩ hc
  have hp : ((m.length : Int) == 0) = false := by simp [hne]
  have hv : (v == 0) = false := by simpa using k4
  have hl := cell_len (hm.alloc (Obj.cells #[.int .i64 s, .int .i64 k] 94))
  have ws : (Lit.int .i64 s).wf = true := by simp only [isScene, decide_eq_true_eq] at k0; exact i64wf (by omega) (by omega)
  have wk : (Lit.int .i64 k).wf = true := i64wf (by simp at k1; omega) (by simp at k2; omega)
  obtain ⟨w2, hst, hm2, hk2, _⟩ := cell_store (hm.alloc (Obj.cells #[.int .i64 s, .int .i64 k] 94)).drew s k v ws wk
  have HM := Lib.hid hm2
  have K0 := Lib.hid k0
  have K3 := Lib.hid k3
  clear hm hm2 ws wk hne k0 k3
  go_enter Tryd.func52, Tryd.ntmps52
  go_wp2_with (first | (go_at_call 93; refine (scene_calls _ _).mono ?_; rintro e w1 ⟨rfl, rfl⟩; rw [K0.out]) | (go_at_call 94; refine (amount_calls _ _).mono ?_; rintro e w1 ⟨rfl, rfl⟩; rw [K3.out]))
  (refine wp_region_still_tail 6 (by kernel_rfl) (by kernel_rfl) ?_; simp only [List.take_succ_cons, List.take_zero, List.drop_succ_cons, List.drop_zero]; change wpStill _ _ (World.drew _) _ _ _; (repeat still_step); refine wpStill_nil ?_; change wpList _ _ _ _ _ (World.drew _))
  go_wp2_with fail
  go_ret
  exact ⟨rfl, HM.out, (Keep.of_below (by (repeat (first | exact Below.refl _ _ | assumption | refine Below.drew ?_ | refine below_many ?_ _ | refine Below.alloc ?_ (by first | (simp; done) | (simp; omega) | omega) _ | refine Below.setCell ?_ (by first | (simp; done) | (simp; omega) | omega) _)))).trans hk2⟩

set_option maxRecDepth 100000 in
theorem tabSet_some0 {w : World} {b o mb : Nat} {m : List ((Int × Int) × Int)} (hc : w.cell? ⟨b, o, none⟩ = some (.map (some mb))) (hm : CellMap w (some mb) m) (hne : m ≠ []) (s k : Int)
    (k0 : isScene s = true) (k1 : decide (k < 1) = false) (k2 : decide (32 < k) = false) :
    Calls Tryd.prog 52 #[.pointer (some ⟨b, o, none⟩), pairV (s, k), .int .i64 0] w fun e w' => e = .returned .nilIface ∧ CellMap w' (some mb) (mdel (mput m (s, k) 0) (s, k)) ∧ Keep (fun x => x = mb) w w' := by
  have hlt : b < w.heap.size := World.block_lt_of_cell? w ⟨b, o, none⟩ hc
  have hp : ((m.length : Int) == 0) = false := by simp [hne]
  have hl := cell_len (hm.alloc (Obj.cells #[.int .i64 s, .int .i64 k] 94))
  have ws : (Lit.int .i64 s).wf = true := by simp only [isScene, decide_eq_true_eq] at k0; exact i64wf (by omega) (by omega)
  have wk : (Lit.int .i64 k).wf = true := i64wf (by simp at k1; omega) (by simp at k2; omega)
  have hmlt := hm.lt mb rfl
  have hmb : b ≠ mb := by
    intro e
    subst e
    rcases hm with ⟨h, _⟩ | ⟨b', h, hm⟩
    · cases h
    · cases h
      obtain ⟨es, clk, hh, _⟩ := hm
      simp [World.cell?, hh] at hc
  obtain ⟨w2, hst, hm2, hk2, _⟩ := cell_store (hm.alloc (Obj.cells #[.int .i64 s, .int .i64 k] 94)).drew s k 0 ws wk
  obtain ⟨w3, hdr, hm3, hk3, _⟩ := cell_drop (ty := 0) hm2.drew s k ws wk
  have hcT : w2.drew.cell? ⟨b, o, none⟩ = some (.map (some mb)) := by
    have := hk2.cell (x := ⟨b, o, none⟩) (by simp; omega) hmb
    rw [World.cell?_drew, this]
    go_simp
  have hcK0 : w2.drew.cell? ⟨w.heap.size, 0, none⟩ = some (.int .i64 s) := by
    have := hk2.cell (x := ⟨w.heap.size, 0, none⟩) (by simp) (by simp; omega)
    rw [World.cell?_drew, this]
    go_simp
  have hcK1 : w2.drew.cell? ⟨w.heap.size, 1, none⟩ = some (.int .i64 k) := by
    have := hk2.cell (x := ⟨w.heap.size, 1, none⟩) (by simp) (by simp; omega)
    rw [World.cell?_drew, this]
    go_simp
  have HM := Lib.hid hm3
  have K0 := Lib.hid k0
  clear hm hm2 hm3 ws wk hne k0
  go_enter Tryd.func52, Tryd.ntmps52
  go_wp2_with (first | (go_at_call 93; refine (scene_calls _ _).mono ?_; rintro e w1 ⟨rfl, rfl⟩; rw [K0.out]) | (go_at_call 94; refine (amount_calls _ _).mono ?_; rintro e w1 ⟨rfl, rfl⟩; rw [show isAmt 0 = true by decide]))
  (refine wp_region_still_tail 6 (by kernel_rfl) (by kernel_rfl) ?_; simp only [List.take_succ_cons, List.take_zero, List.drop_succ_cons, List.drop_zero]; change wpStill _ _ (World.drew _) _ _ _; (repeat still_step); refine wpStill_nil ?_; change wpList _ _ _ _ _ (World.drew _))
  go_wp2_with fail
  (refine wp_region_still_tail 5 (by kernel_rfl) (by kernel_rfl) ?_; simp only [List.take_succ_cons, List.take_zero, List.drop_succ_cons, List.drop_zero]; change wpStill _ _ (World.drew _) _ _ _; (repeat still_step); refine wpStill_nil ?_; change wpList _ _ _ _ _ (World.drew _))
  go_wp2_with fail
  go_ret
  exact ⟨rfl, HM.out, ((Keep.of_below (by (repeat (first | exact Below.refl _ _ | assumption | refine Below.drew ?_ | refine below_many ?_ _ | refine Below.alloc ?_ (by first | (simp; done) | (simp; omega) | omega) _ | refine Below.setCell ?_ (by first | (simp; done) | (simp; omega) | omega) _)))).trans hk2).trans ⟨hk3.os, hk3.tape, hk3.output, hk3.size, hk3.block⟩⟩

set_option maxRecDepth 100000 in
theorem tabSet_none1 {w : World} {b o : Nat} {r : Option Nat} (hc : w.cell? ⟨b, o, none⟩ = some (.map r)) (hfz : w.frozen? ⟨b, o, none⟩ = false) (hm : CellMap w r []) (s k v : Int)
    (k0 : isScene s = true) (k1 : decide (k < 1) = false) (k2 : decide (32 < k) = false) (k3 : isAmt v = true) (k4 : decide (v = 0) = false) :
    Calls Tryd.prog 52 #[.pointer (some ⟨b, o, none⟩), pairV (s, k), .int .i64 v] w fun e w' => e = .returned .nilIface ∧ ∃ nb, CellMap w' (some nb) (mput [] (s, k) v) ∧ MapField w w' b o r (some nb) := by
  have hlt : b < w.heap.size := World.block_lt_of_cell? w ⟨b, o, none⟩ hc
  have hl := cell_len (hm.alloc (Obj.cells #[.int .i64 s, .int .i64 k] 94))
  have hv : (v == 0) = false := by simpa using k4
  have ws : (Lit.int .i64 s).wf = true := by simp only [isScene, decide_eq_true_eq] at k0; exact i64wf (by omega) (by omega)
  have wk : (Lit.int .i64 k).wf = true := i64wf (by simp at k1; omega) (by simp at k2; omega)
  have hmm := @run_makeMap Tryd.prog
  have hsz : (w.setCell ⟨b, o, none⟩ (.map (some (w.heap.size + 1)))).heap.size = w.heap.size := by simp [World.setCell]
  have hm0 : CellMap ((((w.setCell ⟨b, o, none⟩ (.map (some (w.heap.size + 1)))).alloc (Obj.cells #[.int .i64 s, .int .i64 k] 94)).alloc (Obj.map #[] 0)).drew) (some (w.heap.size + 1)) [] :=
    .inr ⟨_, rfl, by
      have := MapAt.made (β := Int) (P := Tryd.prog) (K := 94) (kv := pairV) (vv := i64V) ((w.setCell ⟨b, o, none⟩ (.map (some (w.heap.size + 1)))).alloc (Obj.cells #[.int .i64 s, .int .i64 k] 94))
      rw [show ((w.setCell ⟨b, o, none⟩ (.map (some (w.heap.size + 1)))).alloc (Obj.cells #[.int .i64 s, .int .i64 k] 94)).heap.size = w.heap.size + 1 by simp [hsz]] at this
      exact this⟩
  obtain ⟨w2, hst, hm2, hk2, hs2⟩ := cell_store hm0 s k v ws wk
  have hb1 : Keep (fun x => x = b) w ((((w.setCell ⟨b, o, none⟩ (.map (some (w.heap.size + 1)))).alloc (Obj.cells #[.int .i64 s, .int .i64 k] 94)).alloc (Obj.map #[] 0)).drew) :=
    (keep_setCell w ⟨b, o, none⟩ _).trans (Keep.of_below (by (repeat (first | exact Below.refl _ _ | assumption | refine Below.drew ?_ | refine below_many ?_ _ | refine Below.alloc ?_ (by first | (simp; done) | (simp; omega) | omega) _ | refine Below.setCell ?_ (by first | (simp; done) | (simp; omega) | omega) _))))
  have hcell : ((((w.setCell ⟨b, o, none⟩ (.map (some (w.heap.size + 1)))).alloc (Obj.cells #[.int .i64 s, .int .i64 k] 94)).alloc (Obj.map #[] 0)).drew).cell? ⟨b, o, none⟩ = some (.map (some (w.heap.size + 1))) := by
    go_simp
  have hoth : ∀ o', ((((w.setCell ⟨b, o, none⟩ (.map (some (w.heap.size + 1)))).alloc (Obj.cells #[.int .i64 s, .int .i64 k] 94)).alloc (Obj.map #[] 0)).drew).cell? ⟨b, o', none⟩ = (w.setCell ⟨b, o, none⟩ (.map (some (w.heap.size + 1)))).cell? ⟨b, o', none⟩ ∧
      ((((w.setCell ⟨b, o, none⟩ (.map (some (w.heap.size + 1)))).alloc (Obj.cells #[.int .i64 s, .int .i64 k] 94)).alloc (Obj.map #[] 0)).drew).frozen? ⟨b, o', none⟩ = (w.setCell ⟨b, o, none⟩ (.map (some (w.heap.size + 1)))).frozen? ⟨b, o', none⟩ := by
    intro o'
    have hb0 : Below (w.setCell ⟨b, o, none⟩ (.map (some (w.heap.size + 1)))).heap.size (w.setCell ⟨b, o, none⟩ (.map (some (w.heap.size + 1)))) ((((w.setCell ⟨b, o, none⟩ (.map (some (w.heap.size + 1)))).alloc (Obj.cells #[.int .i64 s, .int .i64 k] 94)).alloc (Obj.map #[] 0)).drew) := by (repeat (first | exact Below.refl _ _ | assumption | refine Below.drew ?_ | refine below_many ?_ _ | refine Below.alloc ?_ (by first | (simp; done) | (simp; omega) | omega) _ | refine Below.setCell ?_ (by first | (simp; done) | (simp; omega) | omega) _))
    exact ⟨hb0.cell (p := ⟨b, o', none⟩) (by rw [hsz]; exact hlt), hb0.frozen (p := ⟨b, o', none⟩) (by rw [hsz]; exact hlt)⟩
  have hne : ¬ b = w.heap.size + 1 := by omega
  have hkk := hk2
  have HM := Lib.hid hm2
  have HF : MapField w w2 b o r (some (w.heap.size + 1)) := by
    have hlt1 : b < ((((w.setCell ⟨b, o, none⟩ (.map (some (w.heap.size + 1)))).alloc (Obj.cells #[.int .i64 s, .int .i64 k] 94)).alloc (Obj.map #[] 0)).drew).heap.size := by
      have := hb1.size; omega
    refine ⟨?_, fun o' ho => ?_, fun o' => ?_, .inr ⟨_, rfl, by omega⟩, ?_⟩
    · rw [hkk.cell (x := ⟨b, o, none⟩) hlt1 hne]; exact hcell
    · rw [hkk.cell (x := ⟨b, o', none⟩) hlt1 hne, (hoth o').1, cell_setCell_other ho]
    · rw [hkk.frozen (x := ⟨b, o', none⟩) hlt1 hne, (hoth o').2, frozen_setCell]
    · refine ⟨hkk.os.trans hb1.os, hkk.tape.trans hb1.tape, hkk.output.trans hb1.output, Nat.le_trans hb1.size hkk.size, fun i hi hs => ?_⟩
      simp only [not_or] at hs
      exact (hkk.block i (Nat.lt_of_lt_of_le hi hb1.size) (by omega)).trans (hb1.block i hi hs.1)
  have HFh := Lib.hid HF
  have K0 := Lib.hid k0
  have K3 := Lib.hid k3
  clear hm0 hm2 hm ws wk hb1 hcell hoth hk2 hs2 hkk HF hsz k0 k3
  go_enter Tryd.func52, Tryd.ntmps52
  go_wp2_with (first | (go_at_call 93; refine (scene_calls _ _).mono ?_; rintro e w1 ⟨rfl, rfl⟩; rw [K0.out]) | (go_at_call 94; refine (amount_calls _ _).mono ?_; rintro e w1 ⟨rfl, rfl⟩; rw [K3.out]))
  (refine wp_region_still_tail 6 (by kernel_rfl) (by kernel_rfl) ?_; simp only [List.take_succ_cons, List.take_zero, List.drop_succ_cons, List.drop_zero]; change wpStill _ _ (World.drew _) _ _ _; (repeat still_step); refine wpStill_nil ?_; change wpList _ _ _ _ _ (World.drew _))
  go_wp2_with fail
  go_ret
  exact ⟨rfl, _, HM.out, HFh.out⟩

set_option maxRecDepth 100000 in
theorem tabSet_none0 {w : World} {b o : Nat} {r : Option Nat} (hc : w.cell? ⟨b, o, none⟩ = some (.map r)) (hfz : w.frozen? ⟨b, o, none⟩ = false) (hm : CellMap w r []) (s k : Int)
    (k0 : isScene s = true) (k1 : decide (k < 1) = false) (k2 : decide (32 < k) = false) :
    Calls Tryd.prog 52 #[.pointer (some ⟨b, o, none⟩), pairV (s, k), .int .i64 0] w fun e w' => e = .returned .nilIface ∧ ∃ nb, CellMap w' (some nb) (mdel (mput [] (s, k) 0) (s, k)) ∧ MapField w w' b o r (some nb) := by
  have hlt : b < w.heap.size := World.block_lt_of_cell? w ⟨b, o, none⟩ hc
  have hl := cell_len (hm.alloc (Obj.cells #[.int .i64 s, .int .i64 k] 94))
  have ws : (Lit.int .i64 s).wf = true := by simp only [isScene, decide_eq_true_eq] at k0; exact i64wf (by omega) (by omega)
  have wk : (Lit.int .i64 k).wf = true := i64wf (by simp at k1; omega) (by simp at k2; omega)
  have hmm := @run_makeMap Tryd.prog
  have hsz : (w.setCell ⟨b, o, none⟩ (.map (some (w.heap.size + 1)))).heap.size = w.heap.size := by simp [World.setCell]
  have hm0 : CellMap ((((w.setCell ⟨b, o, none⟩ (.map (some (w.heap.size + 1)))).alloc (Obj.cells #[.int .i64 s, .int .i64 k] 94)).alloc (Obj.map #[] 0)).drew) (some (w.heap.size + 1)) [] :=
    .inr ⟨_, rfl, by
      have := MapAt.made (β := Int) (P := Tryd.prog) (K := 94) (kv := pairV) (vv := i64V) ((w.setCell ⟨b, o, none⟩ (.map (some (w.heap.size + 1)))).alloc (Obj.cells #[.int .i64 s, .int .i64 k] 94))
      rw [show ((w.setCell ⟨b, o, none⟩ (.map (some (w.heap.size + 1)))).alloc (Obj.cells #[.int .i64 s, .int .i64 k] 94)).heap.size = w.heap.size + 1 by simp [hsz]] at this
      exact this⟩
  obtain ⟨w2, hst, hm2, hk2, hs2⟩ := cell_store hm0 s k 0 ws wk
  have hb1 : Keep (fun x => x = b) w ((((w.setCell ⟨b, o, none⟩ (.map (some (w.heap.size + 1)))).alloc (Obj.cells #[.int .i64 s, .int .i64 k] 94)).alloc (Obj.map #[] 0)).drew) :=
    (keep_setCell w ⟨b, o, none⟩ _).trans (Keep.of_below (by (repeat (first | exact Below.refl _ _ | assumption | refine Below.drew ?_ | refine below_many ?_ _ | refine Below.alloc ?_ (by first | (simp; done) | (simp; omega) | omega) _ | refine Below.setCell ?_ (by first | (simp; done) | (simp; omega) | omega) _))))
  have hcell : ((((w.setCell ⟨b, o, none⟩ (.map (some (w.heap.size + 1)))).alloc (Obj.cells #[.int .i64 s, .int .i64 k] 94)).alloc (Obj.map #[] 0)).drew).cell? ⟨b, o, none⟩ = some (.map (some (w.heap.size + 1))) := by
    go_simp
  have hoth : ∀ o', ((((w.setCell ⟨b, o, none⟩ (.map (some (w.heap.size + 1)))).alloc (Obj.cells #[.int .i64 s, .int .i64 k] 94)).alloc (Obj.map #[] 0)).drew).cell? ⟨b, o', none⟩ = (w.setCell ⟨b, o, none⟩ (.map (some (w.heap.size + 1)))).cell? ⟨b, o', none⟩ ∧
      ((((w.setCell ⟨b, o, none⟩ (.map (some (w.heap.size + 1)))).alloc (Obj.cells #[.int .i64 s, .int .i64 k] 94)).alloc (Obj.map #[] 0)).drew).frozen? ⟨b, o', none⟩ = (w.setCell ⟨b, o, none⟩ (.map (some (w.heap.size + 1)))).frozen? ⟨b, o', none⟩ := by
    intro o'
    have hb0 : Below (w.setCell ⟨b, o, none⟩ (.map (some (w.heap.size + 1)))).heap.size (w.setCell ⟨b, o, none⟩ (.map (some (w.heap.size + 1)))) ((((w.setCell ⟨b, o, none⟩ (.map (some (w.heap.size + 1)))).alloc (Obj.cells #[.int .i64 s, .int .i64 k] 94)).alloc (Obj.map #[] 0)).drew) := by (repeat (first | exact Below.refl _ _ | assumption | refine Below.drew ?_ | refine below_many ?_ _ | refine Below.alloc ?_ (by first | (simp; done) | (simp; omega) | omega) _ | refine Below.setCell ?_ (by first | (simp; done) | (simp; omega) | omega) _))
    exact ⟨hb0.cell (p := ⟨b, o', none⟩) (by rw [hsz]; exact hlt), hb0.frozen (p := ⟨b, o', none⟩) (by rw [hsz]; exact hlt)⟩
  have hne : ¬ b = w.heap.size + 1 := by omega
  obtain ⟨w3, hdr, hm3, hk3, _⟩ := cell_drop (ty := 0) hm2.drew s k ws wk
  have hkk : Keep (fun x => x = w.heap.size + 1) ((((w.setCell ⟨b, o, none⟩ (.map (some (w.heap.size + 1)))).alloc (Obj.cells #[.int .i64 s, .int .i64 k] 94)).alloc (Obj.map #[] 0)).drew) w3 := hk2.trans ⟨hk3.os, hk3.tape, hk3.output, hk3.size, hk3.block⟩
  have hcT : w2.drew.cell? ⟨b, o, none⟩ = some (.map (some (w.heap.size + 1))) := by
    have := hk2.cell (x := ⟨b, o, none⟩) (by simp [hsz]; omega) hne
    rw [World.cell?_drew, this]
    exact hcell
  have hcK0 : w2.drew.cell? ⟨w.heap.size, 0, none⟩ = some (.int .i64 s) := by
    have := hk2.cell (x := ⟨w.heap.size, 0, none⟩) (by simp [hsz]; omega) (by simp)
    rw [World.cell?_drew, this]
    go_simp
  have hcK1 : w2.drew.cell? ⟨w.heap.size, 1, none⟩ = some (.int .i64 k) := by
    have := hk2.cell (x := ⟨w.heap.size, 1, none⟩) (by simp [hsz]; omega) (by simp)
    rw [World.cell?_drew, this]
    go_simp
  have HM := Lib.hid hm3
  have HF : MapField w w3 b o r (some (w.heap.size + 1)) := by
    have hlt1 : b < ((((w.setCell ⟨b, o, none⟩ (.map (some (w.heap.size + 1)))).alloc (Obj.cells #[.int .i64 s, .int .i64 k] 94)).alloc (Obj.map #[] 0)).drew).heap.size := by
      have := hb1.size; omega
    refine ⟨?_, fun o' ho => ?_, fun o' => ?_, .inr ⟨_, rfl, by omega⟩, ?_⟩
    · rw [hkk.cell (x := ⟨b, o, none⟩) hlt1 hne]; exact hcell
    · rw [hkk.cell (x := ⟨b, o', none⟩) hlt1 hne, (hoth o').1, cell_setCell_other ho]
    · rw [hkk.frozen (x := ⟨b, o', none⟩) hlt1 hne, (hoth o').2, frozen_setCell]
    · refine ⟨hkk.os.trans hb1.os, hkk.tape.trans hb1.tape, hkk.output.trans hb1.output, Nat.le_trans hb1.size hkk.size, fun i hi hs => ?_⟩
      simp only [not_or] at hs
      exact (hkk.block i (Nat.lt_of_lt_of_le hi hb1.size) (by omega)).trans (hb1.block i hi hs.1)
  have HFh := Lib.hid HF
  have K0 := Lib.hid k0
  clear hm0 hm2 hm ws wk hb1 hcell hoth hk2 hs2 hkk HF hsz k0 hm3 hk3
  go_enter Tryd.func52, Tryd.ntmps52
  go_wp2_with (first | (go_at_call 93; refine (scene_calls _ _).mono ?_; rintro e w1 ⟨rfl, rfl⟩; rw [K0.out]) | (go_at_call 94; refine (amount_calls _ _).mono ?_; rintro e w1 ⟨rfl, rfl⟩; rw [show isAmt 0 = true by decide]))
  (refine wp_region_still_tail 6 (by kernel_rfl) (by kernel_rfl) ?_; simp only [List.take_succ_cons, List.take_zero, List.drop_succ_cons, List.drop_zero]; change wpStill _ _ (World.drew _) _ _ _; (repeat still_step); refine wpStill_nil ?_; change wpList _ _ _ _ _ (World.drew _))
  go_wp2_with fail
  (refine wp_region_still_tail 5 (by kernel_rfl) (by kernel_rfl) ?_; simp only [List.take_succ_cons, List.take_zero, List.drop_succ_cons, List.drop_zero]; change wpStill _ _ (World.drew _) _ _ _; (repeat still_step); refine wpStill_nil ?_; change wpList _ _ _ _ _ (World.drew _))
  go_wp2_with fail
  go_ret
  exact ⟨rfl, _, HM.out, HFh.out⟩

theorem tabSet_ok {w : World} {b o : Nat} {r : Option Nat} {m : List ((Int × Int) × Int)} (hc : w.cell? ⟨b, o, none⟩ = some (.map r)) (hfz : w.frozen? ⟨b, o, none⟩ = false) (hm : CellMap w r m) (s k v : Int) (h : cellOK s k v = true) :
    Calls Tryd.prog 52 #[.pointer (some ⟨b, o, none⟩), pairV (s, k), .int .i64 v] w fun e w' => e = .returned .nilIface ∧ ∃ r', CellMap w' r' (mset m (s, k) v) ∧ MapField w w' b o r r' := by
  simp only [cellOK, decide_eq_true_eq] at h
  have k0 : isScene s = true := decide_eq_true (by omega)
  have k1 : decide (k < 1) = false := decide_eq_false (by omega)
  have k2 : decide (32 < k) = false := decide_eq_false (by omega)
  have k3 : isAmt v = true := decide_eq_true (by omega)
  by_cases hne : m = []
  · subst hne
    by_cases hv : v = 0
    · subst hv
      refine (tabSet_none0 hc hfz hm s k k0 k1 k2).mono ?_
      rintro e w' ⟨rfl, nb, h1, h2⟩
      exact ⟨rfl, _, h1, h2⟩
    · refine (tabSet_none1 hc hfz hm s k v k0 k1 k2 k3 (decide_eq_false hv)).mono ?_
      rintro e w' ⟨rfl, nb, h1, h2⟩
      exact ⟨rfl, _, by rw [mset, if_neg hv]; exact h1, h2⟩
  · rcases hm with ⟨_, h0⟩ | ⟨mb, rfl, hm⟩
    · exact absurd h0 hne
    · have hm' : CellMap w (some mb) m := .inr ⟨mb, rfl, hm⟩
      by_cases hv : v = 0
      · subst hv
        refine (tabSet_some0 hc hm' hne s k k0 k1 k2).mono ?_
        rintro e w' ⟨rfl, h1, h2⟩
        exact ⟨rfl, _, h1, MapV.field hc hm' h2⟩
      · refine (tabSet_some1 hc hm' hne s k v k0 k1 k2 k3 (decide_eq_false hv)).mono ?_
        rintro e w' ⟨rfl, h1, h2⟩
        exact ⟨rfl, _, by rw [mset, if_neg hv]; exact h1, MapV.field hc hm' h2⟩

/-- A table at block b, cell o: its losses m; its map's block lies from B on. -/
structure Tab (B : Nat) (w : World) (b o : Nat) (m : List ((Int × Int) × Int)) : Prop where
  map : ∃ r, w.cell? ⟨b, o, none⟩ = some (.map r) ∧ CellMap w r m ∧ ∀ x, r = some x → B ≤ x
  free : w.frozen? ⟨b, o, none⟩ = false
  bd : ∀ x ∈ m, 0 ≤ x.2 ∧ x.2 ≤ 1000000000000000
theorem Tab.lt {B : Nat} {w : World} {b o : Nat} {m : List ((Int × Int) × Int)} (h : Tab B w b o m) : b < w.heap.size := by
  obtain ⟨r, hc, _⟩ := h.map
  exact World.block_lt_of_cell? w ⟨b, o, none⟩ hc
theorem Tab.below {B : Nat} {w w' : World} {b o : Nat} {m : List ((Int × Int) × Int)} (h : Tab B w b o m) (k : Below w.heap.size w w') : Tab B w' b o m := by
  have hlt := h.lt
  obtain ⟨⟨r, hc, hm, hr⟩, h3, h6⟩ := h
  exact ⟨⟨r, (k.cell (p := ⟨b, o, none⟩) hlt).trans hc, hm.below k, hr⟩, (k.frozen (p := ⟨b, o, none⟩) hlt).trans h3, h6⟩
theorem mdel_mem {m : List ((Int × Int) × Int)} {k : Int × Int} {x : (Int × Int) × Int} (h : x ∈ mdel m k) : x ∈ m := by
  unfold mdel at h
  exact (List.mem_filter.1 h).1
theorem tab_set {B : Nat} {w : World} {b o : Nat} {m : List ((Int × Int) × Int)} (h : Tab B w b o m) (hB : B ≤ w.heap.size) (s k v : Int) (hv : cellOK s k v = true) :
    Calls Tryd.prog 52 #[.pointer (some ⟨b, o, none⟩), pairV (s, k), .int .i64 v] w fun e w' => e = .returned .nilIface ∧ Tab B w' b o (mset m (s, k) v) ∧ Keep (fun x => x = b ∨ B ≤ x) w w' := by
  obtain ⟨⟨r, hc, hm, hr⟩, h3, h6⟩ := h
  refine (tabSet_ok hc h3 hm s k v hv).mono ?_
  rintro e w' ⟨rfl, r', hm', hf⟩
  have hbd : ∀ x ∈ mput m (s, k) v, 0 ≤ x.2 ∧ x.2 ≤ 1000000000000000 := fun x hx => by
    rcases mem_mput hx with rfl | hx
    · simp only [cellOK, decide_eq_true_eq] at hv
      simp only; omega
    · exact h6 x hx
  refine ⟨rfl, ⟨⟨r', hf.cell, hm', fun x hx => ?_⟩, (hf.froz o).trans h3, fun x hx => ?_⟩, hf.keep.mono fun k _ hk => ?_⟩
  · rcases hf.now with rfl | ⟨nb, rfl, hnb⟩
    · exact hr x hx
    · cases hx; omega
  · unfold mset at hx
    split at hx
    · exact hbd x (mdel_mem hx)
    · exact hbd x hx
  · rcases hk with rfl | hk
    · exact .inl rfl
    · exact .inr (hr k hk)
theorem tab_get {B : Nat} {w : World} {b o : Nat} {m : List ((Int × Int) × Int)} (h : Tab B w b o m) (s k : Int) (h1 : (Lit.int .i64 s).wf = true) (h2 : (Lit.int .i64 k).wf = true) :
    Calls Tryd.prog 61 #[.pointer (some ⟨b, o, none⟩), pairV (s, k)] w fun e w' => e = .returned (.int .i64 ((mget m (s, k)).getD 0)) ∧ Below w.heap.size w w' := by
  obtain ⟨⟨r, hc, hm, hr⟩, _⟩ := h
  exact tabGet_calls hc hm s k h1 h2
theorem tab_cover {ks : List Nat} {C : Nat} {p : Nat → Addr} {w : World} (hE : Errs ks C p w) (h2 : 2 ∈ ks) (h3 : 3 ∈ ks) (h4 : 4 ∈ ks) {B b o : Nat} {m : List ((Int × Int) × Int)} (h : Tab B w b o m) {v : Value} {xs : List Int} (hv : SlI w v xs) :
    Calls Tryd.prog 57 #[.pointer (some ⟨b, o, none⟩), v] w fun e w' => e = .returned (covV p (coverR m xs)) ∧ Below w.heap.size w w' := by
  obtain ⟨⟨r, hc, hm, hr⟩, _, h6⟩ := h
  exact cover_calls hE h2 h3 h4 hc hm h6 hv
theorem tab_new (B : Nat) (w : World) : Tab B (w.alloc (Obj.cells #[.map none] 97)) w.heap.size 0 [] :=
  ⟨⟨none, by go_simp, .inl ⟨rfl, rfl⟩, fun x hx => by cases hx⟩, by go_simp, by simp⟩

end Go.Proofs.YtehacchacgfjlaaDoor
