/- Package hold: a map of places in memory: look-up, len, store, delete, range. -/
import Derived.Test.YtfecgcdceegdlaaDoorErr
import Derived.Test.YtfecgcdceegdlaaDoorMap2
import Derived.Test.YtfecgcdceegdlaaDoorRange
import Derived.StillTailTactics
import Derived.Deep.RegionHeld3
namespace Go.Proofs.YtfecgcdceegdlaaDoor
open Go.Maps
open Go Go.RowKit
set_option linter.unusedSimpArgs false
set_option linter.unusedVariables false

abbrev SpotM := List ((Int × Int) × Int)
theorem spotKeyed : Keyed Tryd.prog 55 := Keyed.of_law (deep_law_laid (by kernel_rfl) (m := 2) (by omega) (of_decide_eq_true (by kernel_rfl)) (by kernel_rfl) (by rw [Tryd.underlying55]))
theorem spotKey (k : Int × Int) (h1 : (Lit.int .i64 k.1).wf = true) (h2 : (Lit.int .i64 k.2).wf = true) : ∃ l, keyOf Tryd.prog 55 (pairV k) = some l :=
  pairKey Tryd.underlying55 rfl rfl rfl rfl (by decide) (by decide) Tryd.underlying3 (by kernel_rfl) (by kernel_rfl) (by kernel_rfl) h1 h2 ⟨Tryd.prog.types.size - 1, by have : 0 < Tryd.prog.types.size := of_decide_eq_true (by kernel_rfl); omega⟩
abbrev SpotMap (w : World) (r : Option Nat) (m : SpotM) : Prop := MapV Tryd.prog 55 pairV i64V w r m
theorem spot_look {w : World} {r : Option Nat} {m : SpotM} (h : SpotMap w r m) (a b : Int) (h1 : (Lit.int .i64 a).wf = true) (h2 : (Lit.int .i64 b).wf = true) :
    (Instr.lookup 51 (.map r) (.agg #[.int .i64 a, .int .i64 b]) false).run Tryd.prog w = .ok (.int .i64 ((mget m (a, b)).getD 0)) w := by
  have := h.look spotKeyed pairV_inj Tryd.underlying51 (z := .int .i64 0) (by kernel_rfl) (k := (a, b)) (spotKey _ h1 h2)
  rw [this]
  cases mget m (a, b) <;> rfl
theorem spot_len {w : World} {r : Option Nat} {m : SpotM} (h : SpotMap w r m) : (Builtin.len_ #[51] 3 #[.map r]).run Tryd.prog w = .ok (.int .i64 (m.length : Int)) w :=
  h.len Tryd.underlying51
set_option maxRecDepth 100000 in
theorem spot_store {w : World} {b : Nat} {m : SpotM} (h : SpotMap w (some b) m) (x y v : Int) (h1 : (Lit.int .i64 x).wf = true) (h2 : (Lit.int .i64 y).wf = true) :
    ∃ w', (Instr.mapUpdate 51 (.map (some b)) (.agg #[.int .i64 x, .int .i64 y]) (.int .i64 v)).run Tryd.prog w = .ok () w' ∧ SpotMap w' (some b) (mput m (x, y) v) ∧ Keep (fun x => x = b) w w' ∧ w'.heap.size = w.heap.size :=
  MapV.store (kv := pairV) (vv := i64V) spotKeyed pairV_inj Tryd.underlying51 h v (spotKey (x, y) h1 h2)
set_option maxRecDepth 100000 in
theorem spot_drop {w : World} {b : Nat} {m : SpotM} {ty : TypeId} (h : SpotMap w (some b) m) (x y : Int) (h1 : (Lit.int .i64 x).wf = true) (h2 : (Lit.int .i64 y).wf = true) :
    ∃ w', (Builtin.delete_ #[51, 55] ty #[.map (some b), .agg #[.int .i64 x, .int .i64 y]]).run Tryd.prog w = .ok (.tuple #[]) w' ∧ SpotMap w' (some b) (mdel m (x, y)) ∧ Keep (fun x => x = b) w w' ∧ w'.heap.size = w.heap.size :=
  MapV.drop (kv := pairV) (vv := i64V) (ty := ty) spotKeyed pairV_inj Tryd.underlying51 h (spotKey (x, y) h1 h2)
end Go.Proofs.YtfecgcdceegdlaaDoor
