/- (*caps.Caps).Set: what it returns and what it leaves. -/
import Derived.Test.YtkdmedmlbglgmaaDoorCapsSum
namespace Go.Proofs.YtkdmedmlbglgmaaDoor
open Go.Maps
open Go Go.RowKit
set_option linter.unusedSimpArgs false
set_option linter.unusedVariables false

theorem mostOf_le (s : Int) : mostOf s ≤ 32 := by unfold mostOf; split <;> try split
                                                  all_goals try split
                                                  all_goals omega
theorem lim_len {w : World} {r : Option Nat} {m : Lims} (h : LimMap w r m) : (Builtin.len_ #[23] 3 #[.map r]).run Tryd.prog w = .ok (.int .i64 (m.length : Int)) w :=
  h.len Tryd.underlying23
set_option maxRecDepth 100000 in
theorem lim_store {w : World} {b : Nat} {m : Lims} (h : LimMap w (some b) m) (x y v : Int) (h1 : (Lit.int .i64 x).wf = true) (h2 : (Lit.int .i64 y).wf = true) :
    ∃ w', (Instr.mapUpdate 23 (.map (some b)) (.agg #[.int .i64 x, .int .i64 y]) (.int .i64 v)).run Tryd.prog w = .ok () w' ∧ LimMap w' (some b) (mput m (x, y) v) ∧ Keep (fun x => x = b) w w' ∧ w'.heap.size = w.heap.size :=
  MapV.store (kv := pairV) (vv := i64V) limKeyed pairV_inj Tryd.underlying23 h v (limKey (x, y) h1 h2)
set_option maxRecDepth 100000 in
theorem lim_drop {w : World} {b : Nat} {m : Lims} {ty : TypeId} (h : LimMap w (some b) m) (x y : Int) (h1 : (Lit.int .i64 x).wf = true) (h2 : (Lit.int .i64 y).wf = true) :
    ∃ w', (Builtin.delete_ #[23, 30] ty #[.map (some b), .agg #[.int .i64 x, .int .i64 y]]).run Tryd.prog w = .ok (.tuple #[]) w' ∧ LimMap w' (some b) (mdel m (x, y)) ∧ Keep (fun x => x = b) w w' ∧ w'.heap.size = w.heap.size :=
  MapV.drop (kv := pairV) (vv := i64V) (ty := ty) limKeyed pairV_inj Tryd.underlying23 h (limKey (x, y) h1 h2)

set_option maxRecDepth 100000 in
theorem limSet_some1 {w : World} {b o mb : Nat} {m : List ((Int × Int) × Int)} (hc : w.cell? ⟨b, o, none⟩ = some (.map (some mb))) (hm : LimMap w (some mb) m) (hne : m ≠ []) (s k v : Int)
    (k0 : 1 ≤ s ∧ s ≤ 3) (k1 : decide (k < 1) = false) (k2 : decide (mostOf s < k) = false) (k3 : isAmt v = true) (k4 : decide (v = 0) = false) :
    Calls Tryd.prog 9 #[.pointer (some ⟨b, o, none⟩), pairV (s, k), .int .i64 v] w fun e w' => e = .returned .nilIface ∧ LimMap w' (some mb) (mput m (s, k) v) ∧ Keep (fun x => x = mb) w w' := by
  have hlt : b < w.heap.size := World.block_lt_of_cell? w ⟨b, o, none⟩ hc
  have hp : ((m.length : Int) == 0) = false := by simp [hne]
  have hv : (v == 0) = false := by simpa using k4
  have hl := lim_len (hm.alloc (Obj.cells #[.int .i64 s, .int .i64 k] 30)).drew
  have ws : (Lit.int .i64 s).wf = true := i64wf (by omega) (by omega)
  have wk : (Lit.int .i64 k).wf = true := i64wf (by simp at k1; omega) (by simp at k2; have := mostOf_le s; omega)
  obtain ⟨w2, hst, hm2, hk2, _⟩ := lim_store (hm.alloc (Obj.cells #[.int .i64 s, .int .i64 k] 30)).drew.drew s k v ws wk
  have HM := Lib.hid hm2
  have K3 := Lib.hid k3
  clear hm hm2 ws wk hne k3
  go_enter Tryd.func9, Tryd.ntmps9
  go_wp2_with fail
  generalize hms : mostOf s = ms at k2
  have HMS := Lib.hid hms
  clear hms
  go_region_held3 (fun w' => w'.cell? ⟨w.heap.size, 0, none⟩ = some (.int .i64 s) ∧ w'.cell? ⟨w.heap.size, 1, none⟩ = some (.int .i64 k)) ((repeat' apply And.intro) <;> first | assumption | go_simp) (first | (go_at_call 31; refine (most_calls _ _).mono ?_; rintro e w1 ⟨rfl, rfl⟩; rw [HMS.out]) | (go_at_call 32; refine (capsAmount_calls _ _).mono ?_; rintro e w1 ⟨rfl, rfl⟩; rw [K3.out]))
  go_wp2_with fail
  (refine wp_region_still_tail 6 (by kernel_rfl) (by kernel_rfl) ?_; simp only [List.take_succ_cons, List.take_zero, List.drop_succ_cons, List.drop_zero]; change wpStill _ _ (World.drew _) _ _ _; (repeat still_step); refine wpStill_nil ?_; change wpList _ _ _ _ _ (World.drew _))
  go_wp2_with fail
  go_ret
  exact ⟨rfl, HM.out, (Keep.of_below (by (repeat (first | exact Below.refl _ _ | assumption | refine Below.drew ?_ | refine below_many ?_ _ | refine Below.alloc ?_ (by first | (simp; done) | (simp; omega) | omega) _ | refine Below.setCell ?_ (by first | (simp; done) | (simp; omega) | omega) _)))).trans hk2⟩

set_option maxRecDepth 100000 in
theorem limSet_some0 {w : World} {b o mb : Nat} {m : List ((Int × Int) × Int)} (hc : w.cell? ⟨b, o, none⟩ = some (.map (some mb))) (hm : LimMap w (some mb) m) (hne : m ≠ []) (s k : Int)
    (k0 : 1 ≤ s ∧ s ≤ 3) (k1 : decide (k < 1) = false) (k2 : decide (mostOf s < k) = false) :
    Calls Tryd.prog 9 #[.pointer (some ⟨b, o, none⟩), pairV (s, k), .int .i64 0] w fun e w' => e = .returned .nilIface ∧ LimMap w' (some mb) (mdel (mput m (s, k) 0) (s, k)) ∧ Keep (fun x => x = mb) w w' := by
  have hlt : b < w.heap.size := World.block_lt_of_cell? w ⟨b, o, none⟩ hc
  have hp : ((m.length : Int) == 0) = false := by simp [hne]
  have hl := lim_len (hm.alloc (Obj.cells #[.int .i64 s, .int .i64 k] 30)).drew
  have ws : (Lit.int .i64 s).wf = true := i64wf (by omega) (by omega)
  have wk : (Lit.int .i64 k).wf = true := i64wf (by simp at k1; omega) (by simp at k2; have := mostOf_le s; omega)
  have hmlt := hm.lt mb rfl
  have hmb : b ≠ mb := by
    intro e
    subst e
    rcases hm with ⟨h, _⟩ | ⟨b', h, hm⟩
    · cases h
    · cases h
      obtain ⟨es, clk, hh, _⟩ := hm
      simp [World.cell?, hh] at hc
  obtain ⟨w2, hst, hm2, hk2, _⟩ := lim_store (hm.alloc (Obj.cells #[.int .i64 s, .int .i64 k] 30)).drew.drew s k 0 ws wk
  obtain ⟨w3, hdr, hm3, hk3, _⟩ := lim_drop (ty := 0) hm2.drew s k ws wk
  have hcT : w2.drew.cell? ⟨b, o, none⟩ = some (.map (some mb)) := by
    have := hk2.cell (x := ⟨b, o, none⟩) (by simp; omega) hmb
    rw [World.cell?_drew, this]
    go_simp
  have hcK0 : w2.drew.cell? ⟨w.heap.size, 0, none⟩ = some (.int .i64 s) := by
    have := hk2.cell (x := ⟨w.heap.size, 0, none⟩) (by simp) (by simp; omega)
    rw [World.cell?_drew, this]
    go_simp
  have hcK1 : w2.drew.cell? ⟨w.heap.size, 1, none⟩ = some (.int .i64 k) := by
    have := hk2.cell (x := ⟨w.heap.size, 1, none⟩) (by simp) (by simp; omega)
    rw [World.cell?_drew, this]
    go_simp
  have HM := Lib.hid hm3
  clear hm hm2 hm3 ws wk hne
  go_enter Tryd.func9, Tryd.ntmps9
  go_wp2_with fail
  generalize hms : mostOf s = ms at k2
  have HMS := Lib.hid hms
  clear hms
  go_region_held3 (fun w' => w'.cell? ⟨w.heap.size, 0, none⟩ = some (.int .i64 s) ∧ w'.cell? ⟨w.heap.size, 1, none⟩ = some (.int .i64 k)) ((repeat' apply And.intro) <;> first | assumption | go_simp) (first | (go_at_call 31; refine (most_calls _ _).mono ?_; rintro e w1 ⟨rfl, rfl⟩; rw [HMS.out]) | (go_at_call 32; refine (capsAmount_calls _ _).mono ?_; rintro e w1 ⟨rfl, rfl⟩; rw [show isAmt 0 = true by decide]))
  go_wp2_with fail
  (refine wp_region_still_tail 6 (by kernel_rfl) (by kernel_rfl) ?_; simp only [List.take_succ_cons, List.take_zero, List.drop_succ_cons, List.drop_zero]; change wpStill _ _ (World.drew _) _ _ _; (repeat still_step); refine wpStill_nil ?_; change wpList _ _ _ _ _ (World.drew _))
  go_wp2_with fail
  (refine wp_region_still_tail 5 (by kernel_rfl) (by kernel_rfl) ?_; simp only [List.take_succ_cons, List.take_zero, List.drop_succ_cons, List.drop_zero]; change wpStill _ _ (World.drew _) _ _ _; (repeat still_step); refine wpStill_nil ?_; change wpList _ _ _ _ _ (World.drew _))
  go_wp2_with fail
  go_ret
  exact ⟨rfl, HM.out, ((Keep.of_below (by (repeat (first | exact Below.refl _ _ | assumption | refine Below.drew ?_ | refine below_many ?_ _ | refine Below.alloc ?_ (by first | (simp; done) | (simp; omega) | omega) _ | refine Below.setCell ?_ (by first | (simp; done) | (simp; omega) | omega) _)))).trans hk2).trans ⟨hk3.os, hk3.tape, hk3.output, hk3.size, hk3.block⟩⟩

set_option maxRecDepth 100000 in
theorem limSet_none1 {w : World} {b o : Nat} {r : Option Nat} (hc : w.cell? ⟨b, o, none⟩ = some (.map r)) (hfz : w.frozen? ⟨b, o, none⟩ = false) (hm : LimMap w r []) (s k v : Int)
    (k0 : 1 ≤ s ∧ s ≤ 3) (k1 : decide (k < 1) = false) (k2 : decide (mostOf s < k) = false) (k3 : isAmt v = true) (k4 : decide (v = 0) = false) :
    Calls Tryd.prog 9 #[.pointer (some ⟨b, o, none⟩), pairV (s, k), .int .i64 v] w fun e w' => e = .returned .nilIface ∧ ∃ nb, LimMap w' (some nb) (mput [] (s, k) v) ∧ MapField w w' b o r (some nb) := by
  have hlt : b < w.heap.size := World.block_lt_of_cell? w ⟨b, o, none⟩ hc
  have hl := lim_len (hm.alloc (Obj.cells #[.int .i64 s, .int .i64 k] 30)).drew
  have hv : (v == 0) = false := by simpa using k4
  have ws : (Lit.int .i64 s).wf = true := i64wf (by omega) (by omega)
  have wk : (Lit.int .i64 k).wf = true := i64wf (by simp at k1; omega) (by simp at k2; have := mostOf_le s; omega)
  have hmm := @run_makeMap Tryd.prog
  have hsz : (w.setCell ⟨b, o, none⟩ (.map (some (w.heap.size + 1)))).heap.size = w.heap.size := by simp [World.setCell]
  have hm0 : LimMap ((((w.setCell ⟨b, o, none⟩ (.map (some (w.heap.size + 1)))).alloc (Obj.cells #[.int .i64 s, .int .i64 k] 30)).alloc (Obj.map #[] 0)).drew.drew) (some (w.heap.size + 1)) [] :=
    .inr ⟨_, rfl, by
      have := MapAt.made (β := Int) (P := Tryd.prog) (K := 30) (kv := pairV) (vv := i64V) ((w.setCell ⟨b, o, none⟩ (.map (some (w.heap.size + 1)))).alloc (Obj.cells #[.int .i64 s, .int .i64 k] 30))
      rw [show ((w.setCell ⟨b, o, none⟩ (.map (some (w.heap.size + 1)))).alloc (Obj.cells #[.int .i64 s, .int .i64 k] 30)).heap.size = w.heap.size + 1 by simp [hsz]] at this
      exact this⟩
  obtain ⟨w2, hst, hm2, hk2, hs2⟩ := lim_store hm0 s k v ws wk
  have hb1 : Keep (fun x => x = b) w ((((w.setCell ⟨b, o, none⟩ (.map (some (w.heap.size + 1)))).alloc (Obj.cells #[.int .i64 s, .int .i64 k] 30)).alloc (Obj.map #[] 0)).drew.drew) :=
    (keep_setCell w ⟨b, o, none⟩ _).trans (Keep.of_below (by (repeat (first | exact Below.refl _ _ | assumption | refine Below.drew ?_ | refine below_many ?_ _ | refine Below.alloc ?_ (by first | (simp; done) | (simp; omega) | omega) _ | refine Below.setCell ?_ (by first | (simp; done) | (simp; omega) | omega) _))))
  have hcell : ((((w.setCell ⟨b, o, none⟩ (.map (some (w.heap.size + 1)))).alloc (Obj.cells #[.int .i64 s, .int .i64 k] 30)).alloc (Obj.map #[] 0)).drew.drew).cell? ⟨b, o, none⟩ = some (.map (some (w.heap.size + 1))) := by
    go_simp
  have hoth : ∀ o', ((((w.setCell ⟨b, o, none⟩ (.map (some (w.heap.size + 1)))).alloc (Obj.cells #[.int .i64 s, .int .i64 k] 30)).alloc (Obj.map #[] 0)).drew.drew).cell? ⟨b, o', none⟩ = (w.setCell ⟨b, o, none⟩ (.map (some (w.heap.size + 1)))).cell? ⟨b, o', none⟩ ∧
      ((((w.setCell ⟨b, o, none⟩ (.map (some (w.heap.size + 1)))).alloc (Obj.cells #[.int .i64 s, .int .i64 k] 30)).alloc (Obj.map #[] 0)).drew.drew).frozen? ⟨b, o', none⟩ = (w.setCell ⟨b, o, none⟩ (.map (some (w.heap.size + 1)))).frozen? ⟨b, o', none⟩ := by
    intro o'
    have hb0 : Below (w.setCell ⟨b, o, none⟩ (.map (some (w.heap.size + 1)))).heap.size (w.setCell ⟨b, o, none⟩ (.map (some (w.heap.size + 1)))) ((((w.setCell ⟨b, o, none⟩ (.map (some (w.heap.size + 1)))).alloc (Obj.cells #[.int .i64 s, .int .i64 k] 30)).alloc (Obj.map #[] 0)).drew.drew) := by (repeat (first | exact Below.refl _ _ | assumption | refine Below.drew ?_ | refine below_many ?_ _ | refine Below.alloc ?_ (by first | (simp; done) | (simp; omega) | omega) _ | refine Below.setCell ?_ (by first | (simp; done) | (simp; omega) | omega) _))
    exact ⟨hb0.cell (p := ⟨b, o', none⟩) (by rw [hsz]; exact hlt), hb0.frozen (p := ⟨b, o', none⟩) (by rw [hsz]; exact hlt)⟩
  have hne : ¬ b = w.heap.size + 1 := by omega
  have hkk := hk2
  have HM := Lib.hid hm2
  have HF : MapField w w2 b o r (some (w.heap.size + 1)) := by
    have hlt1 : b < ((((w.setCell ⟨b, o, none⟩ (.map (some (w.heap.size + 1)))).alloc (Obj.cells #[.int .i64 s, .int .i64 k] 30)).alloc (Obj.map #[] 0)).drew.drew).heap.size := by
      have := hb1.size; omega
    refine ⟨?_, fun o' ho => ?_, fun o' => ?_, .inr ⟨_, rfl, by omega⟩, ?_⟩
    · rw [hkk.cell (x := ⟨b, o, none⟩) hlt1 hne]; exact hcell
    · rw [hkk.cell (x := ⟨b, o', none⟩) hlt1 hne, (hoth o').1, cell_setCell_other ho]
    · rw [hkk.frozen (x := ⟨b, o', none⟩) hlt1 hne, (hoth o').2, frozen_setCell]
    · refine ⟨hkk.os.trans hb1.os, hkk.tape.trans hb1.tape, hkk.output.trans hb1.output, Nat.le_trans hb1.size hkk.size, fun i hi hs => ?_⟩
      simp only [not_or] at hs
      exact (hkk.block i (Nat.lt_of_lt_of_le hi hb1.size) (by omega)).trans (hb1.block i hi hs.1)
  have HFh := Lib.hid HF
  have K3 := Lib.hid k3
  clear hm0 hm2 hm ws wk hb1 hcell hoth hk2 hs2 hkk HF hsz k3
  go_enter Tryd.func9, Tryd.ntmps9
  go_wp2_with fail
  generalize hms : mostOf s = ms at k2
  have HMS := Lib.hid hms
  clear hms
  go_region_held3 (fun w' => w'.cell? ⟨w.heap.size, 0, none⟩ = some (.int .i64 s) ∧ w'.cell? ⟨w.heap.size, 1, none⟩ = some (.int .i64 k)) ((repeat' apply And.intro) <;> first | assumption | go_simp) (first | (go_at_call 31; refine (most_calls _ _).mono ?_; rintro e w1 ⟨rfl, rfl⟩; rw [HMS.out]) | (go_at_call 32; refine (capsAmount_calls _ _).mono ?_; rintro e w1 ⟨rfl, rfl⟩; rw [K3.out]))
  go_wp2_with fail
  (refine wp_region_still_tail 6 (by kernel_rfl) (by kernel_rfl) ?_; simp only [List.take_succ_cons, List.take_zero, List.drop_succ_cons, List.drop_zero]; change wpStill _ _ (World.drew _) _ _ _; (repeat still_step); refine wpStill_nil ?_; change wpList _ _ _ _ _ (World.drew _))
  go_wp2_with fail
  go_ret
  exact ⟨rfl, _, HM.out, HFh.out⟩

set_option maxRecDepth 100000 in
theorem limSet_none0 {w : World} {b o : Nat} {r : Option Nat} (hc : w.cell? ⟨b, o, none⟩ = some (.map r)) (hfz : w.frozen? ⟨b, o, none⟩ = false) (hm : LimMap w r []) (s k : Int)
    (k0 : 1 ≤ s ∧ s ≤ 3) (k1 : decide (k < 1) = false) (k2 : decide (mostOf s < k) = false) :
    Calls Tryd.prog 9 #[.pointer (some ⟨b, o, none⟩), pairV (s, k), .int .i64 0] w fun e w' => e = .returned .nilIface ∧ ∃ nb, LimMap w' (some nb) (mdel (mput [] (s, k) 0) (s, k)) ∧ MapField w w' b o r (some nb) := by
  have hlt : b < w.heap.size := World.block_lt_of_cell? w ⟨b, o, none⟩ hc
  have hl := lim_len (hm.alloc (Obj.cells #[.int .i64 s, .int .i64 k] 30)).drew
  have ws : (Lit.int .i64 s).wf = true := i64wf (by omega) (by omega)
  have wk : (Lit.int .i64 k).wf = true := i64wf (by simp at k1; omega) (by simp at k2; have := mostOf_le s; omega)
  have hmm := @run_makeMap Tryd.prog
  have hsz : (w.setCell ⟨b, o, none⟩ (.map (some (w.heap.size + 1)))).heap.size = w.heap.size := by simp [World.setCell]
  have hm0 : LimMap ((((w.setCell ⟨b, o, none⟩ (.map (some (w.heap.size + 1)))).alloc (Obj.cells #[.int .i64 s, .int .i64 k] 30)).alloc (Obj.map #[] 0)).drew.drew) (some (w.heap.size + 1)) [] :=
    .inr ⟨_, rfl, by
      have := MapAt.made (β := Int) (P := Tryd.prog) (K := 30) (kv := pairV) (vv := i64V) ((w.setCell ⟨b, o, none⟩ (.map (some (w.heap.size + 1)))).alloc (Obj.cells #[.int .i64 s, .int .i64 k] 30))
      rw [show ((w.setCell ⟨b, o, none⟩ (.map (some (w.heap.size + 1)))).alloc (Obj.cells #[.int .i64 s, .int .i64 k] 30)).heap.size = w.heap.size + 1 by simp [hsz]] at this
      exact this⟩
  obtain ⟨w2, hst, hm2, hk2, hs2⟩ := lim_store hm0 s k 0 ws wk
  have hb1 : Keep (fun x => x = b) w ((((w.setCell ⟨b, o, none⟩ (.map (some (w.heap.size + 1)))).alloc (Obj.cells #[.int .i64 s, .int .i64 k] 30)).alloc (Obj.map #[] 0)).drew.drew) :=
    (keep_setCell w ⟨b, o, none⟩ _).trans (Keep.of_below (by (repeat (first | exact Below.refl _ _ | assumption | refine Below.drew ?_ | refine below_many ?_ _ | refine Below.alloc ?_ (by first | (simp; done) | (simp; omega) | omega) _ | refine Below.setCell ?_ (by first | (simp; done) | (simp; omega) | omega) _))))
  have hcell : ((((w.setCell ⟨b, o, none⟩ (.map (some (w.heap.size + 1)))).alloc (Obj.cells #[.int .i64 s, .int .i64 k] 30)).alloc (Obj.map #[] 0)).drew.drew).cell? ⟨b, o, none⟩ = some (.map (some (w.heap.size + 1))) := by
    go_simp
  have hoth : ∀ o', ((((w.setCell ⟨b, o, none⟩ (.map (some (w.heap.size + 1)))).alloc (Obj.cells #[.int .i64 s, .int .i64 k] 30)).alloc (Obj.map #[] 0)).drew.drew).cell? ⟨b, o', none⟩ = (w.setCell ⟨b, o, none⟩ (.map (some (w.heap.size + 1)))).cell? ⟨b, o', none⟩ ∧
      ((((w.setCell ⟨b, o, none⟩ (.map (some (w.heap.size + 1)))).alloc (Obj.cells #[.int .i64 s, .int .i64 k] 30)).alloc (Obj.map #[] 0)).drew.drew).frozen? ⟨b, o', none⟩ = (w.setCell ⟨b, o, none⟩ (.map (some (w.heap.size + 1)))).frozen? ⟨b, o', none⟩ := by
    intro o'
    have hb0 : Below (w.setCell ⟨b, o, none⟩ (.map (some (w.heap.size + 1)))).heap.size (w.setCell ⟨b, o, none⟩ (.map (some (w.heap.size + 1)))) ((((w.setCell ⟨b, o, none⟩ (.map (some (w.heap.size + 1)))).alloc (Obj.cells #[.int .i64 s, .int .i64 k] 30)).alloc (Obj.map #[] 0)).drew.drew) := by (repeat (first | exact Below.refl _ _ | assumption | refine Below.drew ?_ | refine below_many ?_ _ | refine Below.alloc ?_ (by first | (simp; done) | (simp; omega) | omega) _ | refine Below.setCell ?_ (by first | (simp; done) | (simp; omega) | omega) _))
    exact ⟨hb0.cell (p := ⟨b, o', none⟩) (by rw [hsz]; exact hlt), hb0.frozen (p := ⟨b, o', none⟩) (by rw [hsz]; exact hlt)⟩
  have hne : ¬ b = w.heap.size + 1 := by omega
  obtain ⟨w3, hdr, hm3, hk3, _⟩ := lim_drop (ty := 0) hm2.drew s k ws wk
  have hkk : Keep (fun x => x = w.heap.size + 1) ((((w.setCell ⟨b, o, none⟩ (.map (some (w.heap.size + 1)))).alloc (Obj.cells #[.int .i64 s, .int .i64 k] 30)).alloc (Obj.map #[] 0)).drew.drew) w3 := hk2.trans ⟨hk3.os, hk3.tape, hk3.output, hk3.size, hk3.block⟩
  have hcT : w2.drew.cell? ⟨b, o, none⟩ = some (.map (some (w.heap.size + 1))) := by
    have := hk2.cell (x := ⟨b, o, none⟩) (by simp [hsz]; omega) hne
    rw [World.cell?_drew, this]
    exact hcell
  have hcK0 : w2.drew.cell? ⟨w.heap.size, 0, none⟩ = some (.int .i64 s) := by
    have := hk2.cell (x := ⟨w.heap.size, 0, none⟩) (by simp [hsz]; omega) (by simp)
    rw [World.cell?_drew, this]
    go_simp
  have hcK1 : w2.drew.cell? ⟨w.heap.size, 1, none⟩ = some (.int .i64 k) := by
    have := hk2.cell (x := ⟨w.heap.size, 1, none⟩) (by simp [hsz]; omega) (by simp)
    rw [World.cell?_drew, this]
    go_simp
  have HM := Lib.hid hm3
  have HF : MapField w w3 b o r (some (w.heap.size + 1)) := by
    have hlt1 : b < ((((w.setCell ⟨b, o, none⟩ (.map (some (w.heap.size + 1)))).alloc (Obj.cells #[.int .i64 s, .int .i64 k] 30)).alloc (Obj.map #[] 0)).drew.drew).heap.size := by
      have := hb1.size; omega
    refine ⟨?_, fun o' ho => ?_, fun o' => ?_, .inr ⟨_, rfl, by omega⟩, ?_⟩
    · rw [hkk.cell (x := ⟨b, o, none⟩) hlt1 hne]; exact hcell
    · rw [hkk.cell (x := ⟨b, o', none⟩) hlt1 hne, (hoth o').1, cell_setCell_other ho]
    · rw [hkk.frozen (x := ⟨b, o', none⟩) hlt1 hne, (hoth o').2, frozen_setCell]
    · refine ⟨hkk.os.trans hb1.os, hkk.tape.trans hb1.tape, hkk.output.trans hb1.output, Nat.le_trans hb1.size hkk.size, fun i hi hs => ?_⟩
      simp only [not_or] at hs
      exact (hkk.block i (Nat.lt_of_lt_of_le hi hb1.size) (by omega)).trans (hb1.block i hi hs.1)
  have HFh := Lib.hid HF
  clear hm0 hm2 hm ws wk hb1 hcell hoth hk2 hs2 hkk HF hsz hm3 hk3
  go_enter Tryd.func9, Tryd.ntmps9
  go_wp2_with fail
  generalize hms : mostOf s = ms at k2
  have HMS := Lib.hid hms
  clear hms
  go_region_held3 (fun w' => w'.cell? ⟨w.heap.size, 0, none⟩ = some (.int .i64 s) ∧ w'.cell? ⟨w.heap.size, 1, none⟩ = some (.int .i64 k)) ((repeat' apply And.intro) <;> first | assumption | go_simp) (first | (go_at_call 31; refine (most_calls _ _).mono ?_; rintro e w1 ⟨rfl, rfl⟩; rw [HMS.out]) | (go_at_call 32; refine (capsAmount_calls _ _).mono ?_; rintro e w1 ⟨rfl, rfl⟩; rw [show isAmt 0 = true by decide]))
  go_wp2_with fail
  (refine wp_region_still_tail 6 (by kernel_rfl) (by kernel_rfl) ?_; simp only [List.take_succ_cons, List.take_zero, List.drop_succ_cons, List.drop_zero]; change wpStill _ _ (World.drew _) _ _ _; (repeat still_step); refine wpStill_nil ?_; change wpList _ _ _ _ _ (World.drew _))
  go_wp2_with fail
  (refine wp_region_still_tail 5 (by kernel_rfl) (by kernel_rfl) ?_; simp only [List.take_succ_cons, List.take_zero, List.drop_succ_cons, List.drop_zero]; change wpStill _ _ (World.drew _) _ _ _; (repeat still_step); refine wpStill_nil ?_; change wpList _ _ _ _ _ (World.drew _))
  go_wp2_with fail
  go_ret
  exact ⟨rfl, _, HM.out, HFh.out⟩


def limOK (s k v : Int) : Bool := decide (1 ≤ k ∧ k ≤ mostOf s ∧ 0 ≤ v ∧ v ≤ 1000000000000000)
theorem limOK_s {s k v : Int} (h : limOK s k v = true) : 1 ≤ s ∧ s ≤ 3 := by
  simp only [limOK, decide_eq_true_eq] at h
  unfold mostOf at h
  split at h
  · omega
  · split at h
    · omega
    · split at h <;> omega
/-- What Set makes of the limits. -/
def lset (m : Lims) (s k v : Int) : Lims := if limOK s k v then (if v = 0 then mdel (mput m (s, k) v) (s, k) else mput m (s, k) v) else m
def limE (p : Nat → Addr) (s k v : Int) : Value := if limOK s k v then .nilIface else ev p 2

set_option maxRecDepth 100000 in
theorem limSet_bad0 {ks : List Nat} {B : Nat} {p : Nat → Addr} {w : World} (hE : Errs ks B p w) (h2 : 2 ∈ ks) (pt : Value) (s k v : Int) (k1 : decide (k < 1) = true) :
    Calls Tryd.prog 9 #[pt, pairV (s, k), .int .i64 v] w fun e w' => e = .returned (ev p 2) ∧ Below w.heap.size w w' := by
  have c2 := hE.cell 2 h2
  simp only [gl] at c2
  have hlt := World.block_lt_of_cell? w _ c2
  have hms : ∃ ms, mostOf s = ms := ⟨_, rfl⟩
  obtain ⟨ms, hms⟩ := hms
  have hk1 : k < 1 := of_decide_eq_true k1
  have HV : Hid (isAmt v = isAmt v) := rfl
  have HMS := Lib.hid hms
  clear hms hE
  go_enter Tryd.func9, Tryd.ntmps9
  go_wp2_with fail
  go_quiet (fail)
  go_wp2_with fail
  go_ret
  exact ⟨rfl, by (repeat (first | exact Below.refl _ _ | assumption | refine Below.drew ?_ | refine below_many ?_ _ | refine Below.alloc ?_ (by first | (simp; done) | (simp; omega) | omega) _ | refine Below.setCell ?_ (by first | (simp; done) | (simp; omega) | omega) _))⟩
set_option maxRecDepth 100000 in
theorem limSet_bad1 {ks : List Nat} {B : Nat} {p : Nat → Addr} {w : World} (hE : Errs ks B p w) (h2 : 2 ∈ ks) (pt : Value) (s k v : Int) (k1 : decide (k < 1) = false) (k2 : decide (mostOf s < k) = true) :
    Calls Tryd.prog 9 #[pt, pairV (s, k), .int .i64 v] w fun e w' => e = .returned (ev p 2) ∧ Below w.heap.size w w' := by
  have c2 := hE.cell 2 h2
  simp only [gl] at c2
  have hlt := World.block_lt_of_cell? w _ c2
  have hms : ∃ ms, mostOf s = ms := ⟨_, rfl⟩
  obtain ⟨ms, hms⟩ := hms
  rw [hms] at k2
  have hk2 : ms < k := of_decide_eq_true k2
  have HV : Hid (isAmt v = isAmt v) := rfl
  have HMS := Lib.hid hms
  clear hms hE
  go_enter Tryd.func9, Tryd.ntmps9
  go_wp2_with fail
  first | (go_region_with (first | (go_at_call 31; refine (most_calls _ _).mono ?_; rintro e w1 ⟨rfl, rfl⟩; rw [HMS.out]) | (go_at_call 32; refine (capsAmount_calls _ _).mono ?_; rintro e w1 ⟨rfl, rfl⟩; rw [HV.out]))) | fail
  all_goals
    go_wp2_with fail
    go_ret
    exact ⟨rfl, by (repeat (first | exact Below.refl _ _ | assumption | refine Below.drew ?_ | refine below_many ?_ _ | refine Below.alloc ?_ (by first | (simp; done) | (simp; omega) | omega) _ | refine Below.setCell ?_ (by first | (simp; done) | (simp; omega) | omega) _))⟩
set_option maxRecDepth 100000 in
theorem limSet_bad2 {ks : List Nat} {B : Nat} {p : Nat → Addr} {w : World} (hE : Errs ks B p w) (h2 : 2 ∈ ks) (pt : Value) (s k v : Int) (k1 : decide (k < 1) = false) (k2 : decide (mostOf s < k) = false) (k3 : isAmt v = false) :
    Calls Tryd.prog 9 #[pt, pairV (s, k), .int .i64 v] w fun e w' => e = .returned (ev p 2) ∧ Below w.heap.size w w' := by
  have c2 := hE.cell 2 h2
  simp only [gl] at c2
  have hlt := World.block_lt_of_cell? w _ c2
  have hms : ∃ ms, mostOf s = ms := ⟨_, rfl⟩
  obtain ⟨ms, hms⟩ := hms
  rw [hms] at k2
  have HV := Lib.hid k3
  clear k3
  have HMS := Lib.hid hms
  clear hms hE
  go_enter Tryd.func9, Tryd.ntmps9
  go_wp2_with fail
  go_region_held3 (fun w' => w'.cell? ⟨w.heap.size, 0, none⟩ = some (.int .i64 s) ∧ w'.cell? ⟨w.heap.size, 1, none⟩ = some (.int .i64 k)) ((repeat' apply And.intro) <;> first | assumption | go_simp) (first | (go_at_call 31; refine (most_calls _ _).mono ?_; rintro e w1 ⟨rfl, rfl⟩; rw [HMS.out]) | (go_at_call 32; refine (capsAmount_calls _ _).mono ?_; rintro e w1 ⟨rfl, rfl⟩; rw [HV.out]))
  go_wp2_with fail
  go_ret
  exact ⟨rfl, by (repeat (first | exact Below.refl _ _ | assumption | refine Below.drew ?_ | refine below_many ?_ _ | refine Below.alloc ?_ (by first | (simp; done) | (simp; omega) | omega) _ | refine Below.setCell ?_ (by first | (simp; done) | (simp; omega) | omega) _))⟩
theorem limSet_bad {ks : List Nat} {B : Nat} {p : Nat → Addr} {w : World} (hE : Errs ks B p w) (h2 : 2 ∈ ks) (pt : Value) (s k v : Int) (h : limOK s k v = false) :
    Calls Tryd.prog 9 #[pt, pairV (s, k), .int .i64 v] w fun e w' => e = .returned (ev p 2) ∧ Below w.heap.size w w' := by
  simp only [limOK, decide_eq_false_iff_not] at h
  by_cases h1 : k < 1
  · exact limSet_bad0 hE h2 pt s k v (decide_eq_true h1)
  · by_cases h3 : mostOf s < k
    · exact limSet_bad1 hE h2 pt s k v (decide_eq_false h1) (decide_eq_true h3)
    · exact limSet_bad2 hE h2 pt s k v (decide_eq_false h1) (decide_eq_false h3) (decide_eq_false (by omega))

theorem limSet_ok {w : World} {b o : Nat} {r : Option Nat} {m : Lims} (hc : w.cell? ⟨b, o, none⟩ = some (.map r)) (hfz : w.frozen? ⟨b, o, none⟩ = false) (hm : LimMap w r m) (s k v : Int) (h : limOK s k v = true) :
    Calls Tryd.prog 9 #[.pointer (some ⟨b, o, none⟩), pairV (s, k), .int .i64 v] w fun e w' => e = .returned .nilIface ∧ ∃ r', LimMap w' r' (lset m s k v) ∧ MapField w w' b o r r' := by
  have k0 := limOK_s h
  have hl : lset m s k v = (if v = 0 then mdel (mput m (s, k) v) (s, k) else mput m (s, k) v) := by rw [lset, if_pos h]
  rw [hl]
  simp only [limOK, decide_eq_true_eq] at h
  have k1 : decide (k < 1) = false := decide_eq_false (by omega)
  have k2 : decide (mostOf s < k) = false := decide_eq_false (by omega)
  have k3 : isAmt v = true := decide_eq_true (by omega)
  by_cases hne : m = []
  · subst hne
    by_cases hv : v = 0
    · subst hv
      refine (limSet_none0 hc hfz hm s k k0 k1 k2).mono ?_
      rintro e w' ⟨rfl, nb, h1, h2⟩
      exact ⟨rfl, _, h1, h2⟩
    · refine (limSet_none1 hc hfz hm s k v k0 k1 k2 k3 (decide_eq_false hv)).mono ?_
      rintro e w' ⟨rfl, nb, h1, h2⟩
      exact ⟨rfl, _, by rw [if_neg hv]; exact h1, h2⟩
  · rcases hm with ⟨_, h0⟩ | ⟨mb, rfl, hm⟩
    · exact absurd h0 hne
    · have hm' : LimMap w (some mb) m := .inr ⟨mb, rfl, hm⟩
      by_cases hv : v = 0
      · subst hv
        refine (limSet_some0 hc hm' hne s k k0 k1 k2).mono ?_
        rintro e w' ⟨rfl, h1, h2⟩
        exact ⟨rfl, _, h1, MapV.field hc hm' h2⟩
      · refine (limSet_some1 hc hm' hne s k v k0 k1 k2 k3 (decide_eq_false hv)).mono ?_
        rintro e w' ⟨rfl, h1, h2⟩
        exact ⟨rfl, _, by rw [if_neg hv]; exact h1, MapV.field hc hm' h2⟩

/-- The limits at block b, cell o; their map's block lies from B on. -/
structure CapsTab (B : Nat) (w : World) (b o : Nat) (m : Lims) : Prop where
  map : ∃ r, w.cell? ⟨b, o, none⟩ = some (.map r) ∧ LimMap w r m ∧ ∀ x, r = some x → B ≤ x
  free : w.frozen? ⟨b, o, none⟩ = false
theorem CapsTab.at {B : Nat} {w : World} {b o : Nat} {m : Lims} (h : CapsTab B w b o m) : CapsAt w b o m := by
  obtain ⟨r, h1, h2, _⟩ := h.map
  exact ⟨r, h1, h2⟩
theorem CapsTab.lt {B : Nat} {w : World} {b o : Nat} {m : Lims} (h : CapsTab B w b o m) : b < w.heap.size := h.at.lt
theorem CapsTab.below {B : Nat} {w w' : World} {b o : Nat} {m : Lims} (h : CapsTab B w b o m) (k : Below w.heap.size w w') : CapsTab B w' b o m := by
  have hlt := h.lt
  obtain ⟨⟨r, hc, hm, hr⟩, h3⟩ := h
  exact ⟨⟨r, (k.cell (p := ⟨b, o, none⟩) hlt).trans hc, hm.below k, hr⟩, (k.frozen (p := ⟨b, o, none⟩) hlt).trans h3⟩
theorem caps_set {ks : List Nat} {C : Nat} {p : Nat → Addr} {w : World} (hE : Errs ks C p w) (h2 : 2 ∈ ks) {B b o : Nat} {m : Lims} (h : CapsTab B w b o m) (hB : B ≤ w.heap.size) (s k v : Int) :
    Calls Tryd.prog 9 #[.pointer (some ⟨b, o, none⟩), pairV (s, k), .int .i64 v] w fun e w' => e = .returned (limE p s k v) ∧ CapsTab B w' b o (lset m s k v) ∧ Keep (fun x => x = b ∨ B ≤ x) w w' := by
  cases hok : limOK s k v with
  | false =>
    refine (limSet_bad hE h2 _ s k v hok).mono ?_
    rintro e w' ⟨rfl, hb⟩
    refine ⟨by unfold limE; rw [hok]; rfl, ?_, Keep.of_below hb⟩
    have hl : lset m s k v = m := by unfold lset; rw [hok]; rfl
    rw [hl]
    exact h.below hb
  | true =>
    obtain ⟨⟨r, hc, hm, hr⟩, h3⟩ := h
    refine (limSet_ok hc h3 hm s k v hok).mono ?_
    rintro e w' ⟨rfl, r', hm', hf⟩
    refine ⟨by unfold limE; rw [hok]; rfl, ⟨⟨r', hf.cell, hm', fun x hx => ?_⟩, (hf.froz o).trans h3⟩, hf.keep.mono fun k _ hk => ?_⟩
    · rcases hf.now with rfl | ⟨nb, rfl, hnb⟩
      · exact hr x hx
      · cases hx; omega
    · rcases hk with rfl | hk
      · exact .inl rfl
      · exact .inr (hr k hk)
theorem caps_new (B : Nat) (w : World) : CapsTab B (w.alloc (Obj.cells #[.map none] 25)) w.heap.size 0 [] :=
  ⟨⟨none, by go_simp, .inl ⟨rfl, rfl⟩, fun x hx => by cases hx⟩, by go_simp⟩

end Go.Proofs.YtkdmedmlbglgmaaDoor
