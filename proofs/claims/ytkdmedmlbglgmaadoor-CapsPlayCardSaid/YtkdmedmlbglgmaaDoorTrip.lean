/- Keys that are structs of three ints. Over any program. -/
import Derived.Test.YtkdmedmlbglgmaaDoorMap
namespace Go.Proofs.YtkdmedmlbglgmaaDoor
open Go.MapKept Go.Maps
open Go Go.RowKit
set_option linter.unusedSimpArgs false
set_option linter.unusedVariables false

theorem tripKey {P : Program} {k : TypeId} {f g h : Field} {ti : TypeId} {a b c : Int} (hu : P.underlying k = some (.struct #[f, g, h])) (hf : f.type = ti) (hg : g.type = ti) (hh : h.type = ti) (hfo : f.offset = 0) (hgo : g.offset = 1) (hho : h.offset = 2)
    (hfn : (f.name != "_") = true) (hgn : (g.name != "_") = true) (hhn : (h.name != "_") = true)
    (hi : P.underlying ti = some (.int .i64)) (hc : P.cellsOf k = 3) (hci : P.cellsOf ti = 1) (hk : P.keyType k = true) (ha : (Lit.int .i64 a).wf = true) (hb : (Lit.int .i64 b).wf = true) (hcw : (Lit.int .i64 c).wf = true)
    (hs : ∃ n, P.types.size = n + 1) : ∃ l, keyOf P k (.agg #[.int .i64 a, .int .i64 b, .int .i64 c]) = some l := by
  obtain ⟨n, hn⟩ := hs
  have h2 : (Value.agg #[.int .i64 a, .int .i64 b, .int .i64 c]).formed P k = true := by simp [Value.formed, hu, hc]
  have h3 : P.keyLits (n + 1 + 1) k [.int .i64 a, .int .i64 b, .int .i64 c] = some [.int .i64 a, .int .i64 b, .int .i64 c] := by
    have hfn' : ¬ f.name = "_" := by simpa using hfn
    have hgn' : ¬ g.name = "_" := by simpa using hgn
    have hhn' : ¬ h.name = "_" := by simpa using hhn
    have e1 : ∀ x : Int, (Lit.int .i64 x).wf = true → P.keyLits (n + 1) ti [.int .i64 x] = some [.int .i64 x] := fun x hx => by
      unfold Program.keyLits; simp [hi, hx]
    unfold Program.keyLits
    simp [hu, hc, hf, hg, hh, hfo, hgo, hho, hci, hfn', hgn', hhn', e1 a ha, e1 b hb, e1 c hcw]
  rw [← hn] at h3
  refine ⟨.string (keyBytes [.int .i64 a, .int .i64 b, .int .i64 c]), ?_⟩
  unfold keyOf
  simp only [hu, hk, h2, Bool.and_self, if_true, Value.cells]
  rw [h3]
  rfl

abbrev tripV (k : Int × Int × Int) : Value := .agg #[.int .i64 k.1, .int .i64 k.2.1, .int .i64 k.2.2]
theorem tripV_inj (a c : Int × Int × Int) (h : tripV a = tripV c) : a = c := by
  obtain ⟨a1, a2, a3⟩ := a
  obtain ⟨c1, c2, c3⟩ := c
  simp only [tripV, Value.agg.injEq, Array.mk.injEq, List.cons.injEq, Value.int.injEq, true_and, and_true] at h
  rw [h.1, h.2.1, h.2.2]

end Go.Proofs.YtkdmedmlbglgmaaDoor
