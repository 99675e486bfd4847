/- Package asset: Add, Get: what each call returns and what it leaves; a master in memory as a whole. -/
import Derived.Test.YtfecgcdceegdlaaDoorAsset
import Derived.Test.YtfecgcdceegdlaaDoorMap2
import Derived.StillTailTactics
import Derived.Deep.RegionHeld3
namespace Go.Proofs.YtfecgcdceegdlaaDoor
open Go.Maps
open Go Go.RowKit
set_option linter.unusedSimpArgs false
set_option linter.unusedVariables false

/-- An asset: its number, issuer, class, currency, end. -/
abbrev AS := Int × Int × Int × Int × Int
abbrev astV (a : AS) : Value := assetV a.1 a.2.1 a.2.2.1 a.2.2.2.1 a.2.2.2.2
abbrev Assets := List (Int × AS)
theorem intKeyed : Keyed Tryd.prog 3 := int_keyed Tryd.underlying3
theorem i64V_inj (a c : Int) (h : i64V a = i64V c) : a = c := by simpa [i64V] using h
theorem intKey (k : Int) (h : (Lit.int .i64 k).wf = true) : ∃ l, keyOf Tryd.prog 3 (i64V k) = some l := ⟨_, keyOf_int_mk Tryd.underlying3 h⟩
abbrev AssetMap (w : World) (r : Option Nat) (m : Assets) : Prop := MapV Tryd.prog 3 i64V astV w r m
def zeroA : AS := (0, 0, 0, 0, 0)
theorem asset_look {w : World} {r : Option Nat} {m : Assets} (h : AssetMap w r m) (k : Int) (hk : (Lit.int .i64 k).wf = true) :
    (Instr.lookup 25 (.map r) (.int .i64 k) false).run Tryd.prog w = .ok (astV ((mget m k).getD zeroA)) w := by
  have := h.look intKeyed i64V_inj Tryd.underlying25 (z := astV zeroA) (by kernel_rfl) (k := k) (intKey k hk)
  rw [this]
  cases mget m k <;> rfl
theorem asset_look_ok {w : World} {r : Option Nat} {m : Assets} (h : AssetMap w r m) (k : Int) (hk : (Lit.int .i64 k).wf = true) :
    (Instr.lookup 25 (.map r) (.int .i64 k) true).run Tryd.prog w = .ok (.tuple #[astV ((mget m k).getD zeroA), .bool (mget m k).isSome]) w := by
  have := h.look_ok intKeyed i64V_inj Tryd.underlying25 (z := astV zeroA) (by kernel_rfl) (k := k) (intKey k hk)
  rw [this]
  cases mget m k <;> rfl
theorem asset_len {w : World} {r : Option Nat} {m : Assets} (h : AssetMap w r m) : (Builtin.len_ #[25] 3 #[.map r]).run Tryd.prog w = .ok (.int .i64 (m.length : Int)) w :=
  h.len Tryd.underlying25
set_option maxRecDepth 100000 in
theorem asset_store {w : World} {b : Nat} {m : Assets} (h : AssetMap w (some b) m) (k : Int) (a : AS) (hk : (Lit.int .i64 k).wf = true) :
    ∃ w', (Instr.mapUpdate 25 (.map (some b)) (.int .i64 k) (astV a)).run Tryd.prog w = .ok () w' ∧ AssetMap w' (some b) (mput m k a) ∧ Keep (fun x => x = b) w w' ∧ w'.heap.size = w.heap.size :=
  MapV.store (kv := i64V) (vv := astV) intKeyed i64V_inj Tryd.underlying25 h a (intKey k hk)

set_option maxRecDepth 100000 in
theorem masterGet_calls {w : World} {b o : Nat} {r : Option Nat} {m : Assets} (hc : w.cell? ⟨b, o, none⟩ = some (.map r)) (hm : AssetMap w r m) (k : Int) (h1 : (Lit.int .i64 k).wf = true) :
    Calls Tryd.prog 28 #[.pointer (some ⟨b, o, none⟩), .int .i64 k] w fun e w' => e = .returned (.tuple #[astV ((mget m k).getD zeroA), .bool (mget m k).isSome]) ∧ Below w.heap.size w w' := by
  have hlt : b < w.heap.size := World.block_lt_of_cell? w ⟨b, o, none⟩ hc
  have hl := asset_look_ok (hm.alloc (Obj.cells #[.int .i64 0, .int .i64 0, .int .i64 0, .int .i64 0, .int .i64 0] 29)) k h1
  clear hm h1
  generalize (mget m k).getD zeroA = v at hl ⊢
  generalize (mget m k).isSome = q at hl ⊢
  obtain ⟨v1, v2, v3, v4, v5⟩ := v
  go_enter Tryd.func28, Tryd.ntmps28
  go_wp2_with fail
  refine bodyPost_ret (v := .tuple #[astV (v1, v2, v3, v4, v5), .bool q]) (by simp [results, Tryd.results28, go_sem]) rfl ⟨rfl, by (repeat (first | exact Below.refl _ _ | assumption | refine Below.drew ?_ | refine below_many ?_ _ | refine Below.alloc ?_ (by first | (simp; done) | (simp; omega) | omega) _ | refine Below.setCell ?_ (by first | (simp; done) | (simp; omega) | omega) _))⟩


set_option maxRecDepth 100000 in
theorem masterAdd_bad {ks : List Nat} {B : Nat} {p : Nat → Addr} {w : World} (hE : Errs ks B p w) (h2 : 2 ∈ ks) (pt : Value) (a : AS) (hv : validA a.1 a.2.1 a.2.2.1 a.2.2.2.1 a.2.2.2.2 = false) :
    Calls Tryd.prog 17 #[pt, astV a] w fun e w' => e = .returned (ev p 2) ∧ Below w.heap.size w w' := by
  obtain ⟨a1, a2, a3, a4, a5⟩ := a
  have HE := Lib.hid hE
  have HV := Lib.hid (validV_bad (p := p) hv)
  clear hE hv
  go_enter Tryd.func17, Tryd.ntmps17
  go_wp2_with fail
  refine (valid_calls (HE.out.below (show Below B w _ from (Below.refl _ _).alloc HE.out.size _)) h2 a1 a2 a3 a4 a5).mono ?_
  rintro e w1 ⟨rfl, hb⟩
  rw [HV.out, show ev p 2 = Value.iface 230 (.pointer (some (p 2))) from rfl]
  have hB : Below w.heap.size w w1 := Below.trans ((Below.refl _ _).alloc (Nat.le_refl _) _) (hb.mono (by simp))
  clear hb
  go_wp2_with fail
  go_ret
  exact ⟨rfl, hB⟩

set_option maxHeartbeats 1000000 in
set_option maxRecDepth 100000 in
theorem masterAdd_there {ks : List Nat} {B : Nat} {p : Nat → Addr} {w : World} (hE : Errs ks B p w) (h2 : 2 ∈ ks) (h6 : 6 ∈ ks) {b o : Nat} {r : Option Nat} {m : Assets} (hc : w.cell? ⟨b, o, none⟩ = some (.map r)) (hm : AssetMap w r m) (a : AS) (hv : validA a.1 a.2.1 a.2.2.1 a.2.2.2.1 a.2.2.2.2 = true)
    (hi : (mget m a.1).isSome = true) :
    Calls Tryd.prog 17 #[.pointer (some ⟨b, o, none⟩), astV a] w fun e w' => e = .returned (ev p 6) ∧ Below w.heap.size w w' := by
  have hlt : b < w.heap.size := World.block_lt_of_cell? w ⟨b, o, none⟩ hc
  obtain ⟨a1, a2, a3, a4, a5⟩ := a
  have c6 := hE.cell 6 h6
  simp only [gl] at c6
  have hlt6 := World.block_lt_of_cell? w _ c6
  have hwf : (Lit.int .i64 a1).wf = true := by
    simp only [validA, decide_eq_true_eq] at hv
    exact i64wf (by omega) (by omega)
  have HE := Lib.hid hE
  have HV := Lib.hid (validV_ok (p := p) hv)
  have HM := Lib.hid hm
  have HI := Lib.hid hi
  clear hE hv hm hi
  go_enter Tryd.func17, Tryd.ntmps17
  go_wp2_with fail
  refine (valid_calls (HE.out.below (show Below B w _ from (Below.refl _ _).alloc HE.out.size _)) h2 a1 a2 a3 a4 a5).mono ?_
  rintro e w1 ⟨rfl, hb⟩
  rw [HV.out]
  have hB : Below w.heap.size w w1 := Below.trans ((Below.refl _ _).alloc (Nat.le_refl _) _) (hb.mono (by simp))
  have hc1 := (hB.cell (p := ⟨b, o, none⟩) hlt).trans hc
  have d6 := (hB.cell (p := ⟨0, 0, none⟩) hlt6).trans c6
  have q0 := (hb.cell (p := ⟨w.heap.size, 0, none⟩) (by simp)).trans (show _ = some (Value.int .i64 a1) by go_simp)
  have hs1 : w.heap.size < w1.heap.size := by have := hb.size; simp at this; omega
  have hl := asset_look_ok (HM.out.below hB).drew a1 hwf
  have hl' : ∀ ob, (Instr.lookup 25 (.map r) (.int .i64 a1) true).run Tryd.prog (w1.alloc ob).drew = .ok (.tuple #[astV ((mget m a1).getD zeroA), .bool (mget m a1).isSome]) (w1.alloc ob).drew := fun ob => asset_look_ok ((HM.out.below hB).alloc ob).drew a1 hwf
  have e0 : ∀ ob : Obj, (w1.alloc ob).cell? ⟨b, o, none⟩ = some (.map r) := fun ob => (((Below.refl w1.heap.size w1).alloc (Nat.le_refl _) ob).cell (p := ⟨b, o, none⟩) (World.block_lt_of_cell? w1 _ hc1)).trans hc1
  have e6 : ∀ ob : Obj, (w1.alloc ob).cell? ⟨0, 0, none⟩ = some (ev p 6) := fun ob => (((Below.refl w1.heap.size w1).alloc (Nat.le_refl _) ob).cell (p := ⟨0, 0, none⟩) (World.block_lt_of_cell? w1 _ d6)).trans d6
  have e1 : ∀ ob : Obj, (w1.alloc ob).cell? ⟨w.heap.size, 0, none⟩ = some (.int .i64 a1) := fun ob => (((Below.refl w1.heap.size w1).alloc (Nat.le_refl _) ob).cell (p := ⟨w.heap.size, 0, none⟩) (World.block_lt_of_cell? w1 _ q0)).trans q0
  rw [HI.out] at hl hl'
  generalize (mget m a1).getD zeroA = v at hl hl'
  obtain ⟨v1, v2, v3, v4, v5⟩ := v
  clear hb hc c6
  go_wp2_with fail
  go_region_with fail
  all_goals
    go_wp2_with fail
    go_ret
    exact ⟨rfl, by (repeat (first | exact Below.refl _ _ | assumption | refine Below.drew ?_ | refine below_many ?_ _ | refine Below.alloc ?_ (by first | (simp; done) | (simp; omega) | omega) _ | refine Below.setCell ?_ (by first | (simp; done) | (simp; omega) | omega) _))⟩

set_option maxHeartbeats 4000000 in
set_option maxRecDepth 100000 in
theorem masterAdd_some {ks : List Nat} {B : Nat} {p : Nat → Addr} {w : World} (hE : Errs ks B p w) (h2 : 2 ∈ ks) {b o mb : Nat} {m : Assets} (hc : w.cell? ⟨b, o, none⟩ = some (.map (some mb))) (hm : AssetMap w (some mb) m) (hne : m ≠ []) (a : AS) (hv : validA a.1 a.2.1 a.2.2.1 a.2.2.2.1 a.2.2.2.2 = true)
    (hi : (mget m a.1).isSome = false) :
    Calls Tryd.prog 17 #[.pointer (some ⟨b, o, none⟩), astV a] w fun e w' => e = .returned .nilIface ∧ AssetMap w' (some mb) (mput m a.1 a) ∧ Keep (fun x => x = mb) w w' := by
  have hlt : b < w.heap.size := World.block_lt_of_cell? w ⟨b, o, none⟩ hc
  obtain ⟨a1, a2, a3, a4, a5⟩ := a
  have hp : ((m.length : Int) == 0) = false := by simp [hne]
  have hwf : (Lit.int .i64 a1).wf = true := by
    simp only [validA, decide_eq_true_eq] at hv
    exact i64wf (by omega) (by omega)
  have HE := Lib.hid hE
  have HV := Lib.hid (validV_ok (p := p) hv)
  have HM := Lib.hid hm
  have HI := Lib.hid hi
  clear hE hv hm hi hne
  go_enter Tryd.func17, Tryd.ntmps17
  go_wp2_with fail
  refine (valid_calls (HE.out.below (show Below B w _ from (Below.refl _ _).alloc HE.out.size _)) h2 a1 a2 a3 a4 a5).mono ?_
  rintro e w1 ⟨rfl, hb⟩
  rw [HV.out]
  have hB : Below w.heap.size w w1 := Below.trans ((Below.refl _ _).alloc (Nat.le_refl _) _) (hb.mono (by simp))
  have hc1 := (hB.cell (p := ⟨b, o, none⟩) hlt).trans hc
  have hq : ∀ i u, (w.alloc (Obj.cells #[.int .i64 a1, .int .i64 a2, .int .i64 a3, .int .i64 a4, .int .i64 a5] 29)).cell? ⟨w.heap.size, i, none⟩ = some u → w1.cell? ⟨w.heap.size, i, none⟩ = some u := fun i u hu => (hb.cell (p := ⟨w.heap.size, i, none⟩) (by simp)).trans hu
  have q0 := hq 0 (.int .i64 a1) (by go_simp)
  have q1 := hq 1 (.int .i64 a2) (by go_simp)
  have q2 := hq 2 (.int .i64 a3) (by go_simp)
  have q3 := hq 3 (.int .i64 a4) (by go_simp)
  have q4 := hq 4 (.int .i64 a5) (by go_simp)
  have hs1 : w.heap.size < w1.heap.size := by have := hb.size; simp at this; omega
  have hl := asset_look_ok (HM.out.below hB).drew a1 hwf
  have hl' : ∀ ob, (Instr.lookup 25 (.map (some mb)) (.int .i64 a1) true).run Tryd.prog (w1.alloc ob).drew = .ok (.tuple #[astV ((mget m a1).getD zeroA), .bool (mget m a1).isSome]) (w1.alloc ob).drew := fun ob => asset_look_ok ((HM.out.below hB).alloc ob).drew a1 hwf
  have hn' : ∀ ob, (Builtin.len_ #[25] 3 #[.map (some mb)]).run Tryd.prog (w1.alloc ob).drew = .ok (.int .i64 (m.length : Int)) (w1.alloc ob).drew := fun ob => asset_len ((HM.out.below hB).alloc ob).drew
  have hcell' : ∀ (x : Addr) u, w1.cell? x = some u → ∀ ob : Obj, (w1.alloc ob).cell? x = some u := fun x u hx ob => (((Below.refl w1.heap.size w1).alloc (Nat.le_refl _) ob).cell (World.block_lt_of_cell? w1 _ hx)).trans hx
  have e0 := hcell' _ _ hc1
  have e1 := hcell' _ _ q0
  have e2 := hcell' _ _ q1
  have e3 := hcell' _ _ q2
  have e4 := hcell' _ _ q3
  have e5 := hcell' _ _ q4
  rw [HI.out] at hl hl'
  generalize (mget m a1).getD zeroA = v at hl hl'
  obtain ⟨v1, v2, v3, v4, v5⟩ := v
  obtain ⟨w2, hst, hm2, hk2, _⟩ := asset_store (((HM.out.below hB).alloc (Obj.cells #[.int .i64 v1, .int .i64 v2, .int .i64 v3, .int .i64 v4, .int .i64 v5] 29)).drew.drew) a1 (a1, a2, a3, a4, a5) hwf
  have HM2 := Lib.hid hm2
  have HK2 := Lib.hid hk2
  clear hb hc hq hcell' hm2 hk2
  go_wp2_with fail
  go_region_with fail
  all_goals
    go_wp2_with fail
    (refine wp_region_still_tail 7 (by kernel_rfl) (by kernel_rfl) ?_; simp only [List.take_succ_cons, List.take_zero, List.drop_succ_cons, List.drop_zero]; change wpStill _ _ (World.drew _) _ _ _; (repeat still_step); refine wpStill_nil ?_; change wpList _ _ _ _ _ (World.drew _))
    go_wp2_with fail
    go_ret
    exact ⟨rfl, HM2.out, (Keep.of_below (by (repeat (first | exact Below.refl _ _ | assumption | refine Below.drew ?_ | refine below_many ?_ _ | refine Below.alloc ?_ (by first | (simp; done) | (simp; omega) | omega) _ | refine Below.setCell ?_ (by first | (simp; done) | (simp; omega) | omega) _)))).trans HK2.out⟩

end Go.Proofs.YtfecgcdceegdlaaDoor
