/- Arguments whose cells are int64 numbers alone: structs of such, slices of such structs, opened to rows of cells. Over any program. -/
import Derived.Deep.Slices
import Derived.Deep.Fields
import Derived.ChangeSame
import Derived.OpenShut
import Derived.Test.YtchbkceconlbkaaGreatDoorLib
namespace Go.Proofs.YtchbkceconlbkaaGreatDoor
open Go.ChangeShapes Go.WideShapes Go.Deep
open Go Go.RowKit
set_option linter.unusedSimpArgs false
set_option linter.unusedVariables false

/-- Whatever of type t is read as data is n int64 cells. -/
def AllI (P : Program) (t : TypeId) (n : Nat) : Prop :=
  ∀ {H : Type} {enc : TypeId × Value → H} {w : World} {base : Nat} {spare : Nat → Bool} {held : Bool} {fuel : Nat} {cs : List Value} {x : DataW H × List MemPlace},
    DataW.trod enc P w base spare held fuel t cs = some x → ∃ zs : List Int, cs = zs.map (fun z => Value.int .i64 z) ∧ zs.length = n ∧ ∀ z ∈ zs, (Lit.int .i64 z).wf = true
theorem AllI.int {P : Program} {t : TypeId} (ht : P.underlying t = some (.int .i64)) : AllI P t 1 := by
  intro H enc w base spare held fuel cs x h
  obtain ⟨n, rfl, rfl, hw⟩ := DataW.trod_int ht h
  exact ⟨[n], rfl, rfl, by simpa using hw⟩
/-- From offset o on the fields cover n int64 cells. -/
def Segs (P : Program) : Nat → List Field → Nat → Prop
  | _, [], n => n = 0
  | o, f :: fs, n => ∃ k m, f.offset = o ∧ P.cellsOf f.type = k ∧ AllI P f.type k ∧ Segs P (o + k) fs m ∧ n = k + m
theorem segs_cells {P : Program} {H : Type} {enc : TypeId × Value → H} {w : World} {base : Nat} {spare : Nat → Bool} {held : Bool} {fuel : Nat} {cs : List Value} :
    ∀ (fs : List Field) (o n : Nat), Segs P o fs n → o + n ≤ cs.length →
      (∀ f ∈ fs, ∃ x, DataW.trod enc P w base spare held fuel f.type ((cs.drop f.offset).take (P.cellsOf f.type)) = some x) →
      ∃ zs : List Int, (cs.drop o).take n = zs.map (fun z => Value.int .i64 z) ∧ zs.length = n ∧ ∀ z ∈ zs, (Lit.int .i64 z).wf = true
  | [], o, n, h, _, _ => by
    obtain rfl : n = 0 := h
    exact ⟨[], by simp, rfl, by simp⟩
  | f :: fs, o, n, h, hl, hf => by
    obtain ⟨k, m, rfl, rfl, hA, hS, rfl⟩ := h
    obtain ⟨x, hx⟩ := hf f (by simp)
    obtain ⟨zs, h1, h2, h3⟩ := hA hx
    obtain ⟨zs', h1', h2', h3'⟩ := segs_cells fs _ m hS (by omega) (fun g hg => hf g (by simp [hg]))
    refine ⟨zs ++ zs', ?_, by simp [h2, h2'], fun z hz => ?_⟩
    · rw [List.take_add, h1, List.drop_drop, h1', List.map_append]
    · rcases List.mem_append.1 hz with hz | hz
      · exact h3 z hz
      · exact h3' z hz
theorem AllI.struct {P : Program} {t : TypeId} {fs : Array Field} {n : Nat} (ht : P.underlying t = some (.struct fs)) (hC : P.cellsOf t = n) (hS : Segs P 0 fs.toList n) : AllI P t n := by
  intro H enc w base spare held fuel cs x h
  obtain ⟨ys, n', hn', hy, hlen, hyl, hf⟩ := DataW.trod_struct ht h
  obtain ⟨zs, h1, h2, h3⟩ := segs_cells (enc := enc) (w := w) (base := base) (spare := spare) (held := held) (fuel := n') (cs := cs) fs.toList 0 n hS (by omega) (fun f hm => by
    obtain ⟨j, hj⟩ := List.mem_iff_getElem?.1 hm
    have hj' : fs[j]? = some f := by simpa using hj
    have hlt : j < fs.size := (Array.getElem?_eq_some_iff.1 hj').1
    exact ⟨_, (hf j f hj').trans (List.getElem?_eq_getElem (by omega))⟩)
  refine ⟨zs, ?_, h2, h3⟩
  rw [← h1, List.drop_zero, List.take_of_length_le (by omega)]

/-- A slice value, each element n int64 cells: zs is the row of cells. -/
def IsRows (n : Nat) (w : World) (a : Option Addr) (len cap : Nat) (zs : List Int) : Prop :=
  (a = none ∧ len = 0 ∧ cap = 0 ∧ zs = []) ∨
  ∃ x, a = some x ∧ len ≤ cap ∧ cap ≤ maxLen ∧ len * n ≤ zs.length ∧ (∀ i, i < zs.length → w.cell? (x.add i) = some (.int .i64 (zs.getD i 0))) ∧ ∀ z ∈ zs, (Lit.int .i64 z).wf = true
theorem IsRows.open {n : Nat} {w : World} {a : Option Addr} {len cap : Nat} {zs : List Int} (h : IsRows n w a len cap zs) (hn : 0 < n) (hp : 0 < len) :
    ∃ b off, a = some ⟨b, off, none⟩ ∧ b < w.heap.size ∧ len * n ≤ zs.length ∧ len ≤ cap ∧ cap ≤ maxLen ∧ (∀ j, j < zs.length → w.cell? ⟨b, off + j, none⟩ = some (.int .i64 (zs.getD j 0))) ∧ ∀ z ∈ zs, (Lit.int .i64 z).wf = true := by
  rcases h with ⟨_, h0, _⟩ | ⟨x, rfl, h1, h2, h3, h4, h5⟩
  · omega
  · have hpos : 0 < zs.length := Nat.lt_of_lt_of_le (Nat.mul_pos hp hn) h3
    obtain ⟨b, off, rfl, hc⟩ := ints_at h4 hpos
    exact ⟨b, off, rfl, World.block_lt_of_cell? w ⟨b, off + 0, none⟩ (hc 0 hpos), h3, h1, h2, hc, h5⟩

theorem isRows_of {P : Program} {H : Type} {enc : TypeId × Value → H} {w : World} {base : Nat} {spare : Nat → Bool} {held : Bool} {fuel : Nat} {t e : TypeId} {n : Nat} (hn : 0 < n) (ht : P.underlying t = some (.slice e)) (hC : P.cellsOf e = n) (hA : AllI P e n)
    {a : Option Addr} {len cap : Nat} {x : DataW H × List MemPlace} (h : DataW.trod enc P w base spare held fuel t (Value.slice a len cap).cells.toList = some x) : ∃ zs, IsRows n w a len cap zs := by
  rcases open_slice ht h with ⟨hcs, _⟩ | ⟨x, l, c, m, n', D, Pl, hcs, hb, hl, hm, hmm, hx, hi⟩
  · simp [Value.cells] at hcs
    obtain ⟨rfl, rfl, rfl⟩ := hcs
    exact ⟨[], .inl ⟨rfl, rfl, rfl, rfl⟩⟩
  · simp [Value.cells] at hcs
    obtain ⟨rfl, rfl, rfl⟩ := hcs
    rw [hC] at hi
    have hel : ∀ i, i < m → ∃ zs : List Int, zs.length = n ∧ (∀ j, j < n → w.cell? (x.add (i * n + j)) = some (.int .i64 (zs.getD j 0))) ∧ ∀ z ∈ zs, (Lit.int .i64 z).wf = true := by
      intro i him
      obtain ⟨cs', hc, ht'⟩ := hi i him
      obtain ⟨zs, rfl, h2, h3⟩ := hA ht'
      obtain ⟨_, hcl, hat⟩ := World.cells?_some hc
      refine ⟨zs, h2, fun j hj => ?_, h3⟩
      rw [← add_add, hat j hj]
      simp [List.getD, h2, hj]
    have hex : ∃ f : Nat → List Int, ∀ i, i < m → (f i).length = n ∧ (∀ j, j < n → w.cell? (x.add (i * n + j)) = some (.int .i64 ((f i).getD j 0))) ∧ ∀ z ∈ f i, (Lit.int .i64 z).wf = true :=
      ⟨fun i => if h : i < m then Classical.choose (hel i h) else [], fun i h => by simp only [dif_pos h]; exact Classical.choose_spec (hel i h)⟩
    obtain ⟨f, hf⟩ := hex
    have hml : len ≤ m := by rw [hmm]; split <;> omega
    have hdm : ∀ i, i < m * n → i / n < m ∧ i % n < n ∧ i / n * n + i % n = i := fun i hi => ⟨Nat.div_lt_of_lt_mul (by rwa [Nat.mul_comm] at hi), Nat.mod_lt _ hn, by rw [Nat.mul_comm]; exact Nat.div_add_mod i n⟩
    refine ⟨(List.range (m * n)).map (fun i => (f (i / n)).getD (i % n) 0), .inr ⟨x, rfl, hl, hm, ?_, fun i hi => ?_, fun z hz => ?_⟩⟩
    · simp only [List.length_map, List.length_range]
      exact Nat.mul_le_mul_right n hml
    · simp only [List.length_map, List.length_range] at hi
      obtain ⟨h1, h2, h3⟩ := hdm i hi
      have := (hf _ h1).2.1 _ h2
      rw [h3] at this
      rw [this]
      simp [List.getD, hi]
    · obtain ⟨i, hi, rfl⟩ := List.mem_map.1 hz
      obtain ⟨h1, h2, h3⟩ := hdm i (List.mem_range.1 hi)
      obtain ⟨g1, _, g3⟩ := hf _ h1
      refine g3 _ ?_
      simp [List.getD, g1, h2]

end Go.Proofs.YtchbkceconlbkaaGreatDoor
