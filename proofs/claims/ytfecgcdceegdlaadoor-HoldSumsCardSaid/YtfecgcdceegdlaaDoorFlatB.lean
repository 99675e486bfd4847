/- Arguments whose cells are int64 numbers and truth values: structs of such, slices of such structs, opened to rows of cells. Over any program. -/
import Derived.Test.YtfecgcdceegdlaaDoorFlat
import Derived.ChangeArms
namespace Go.Proofs.YtfecgcdceegdlaaDoor
open Go.ChangeShapes Go.WideShapes Go.Deep
open Go Go.RowKit
set_option linter.unusedSimpArgs false
set_option linter.unusedVariables false

/-- A cell of a kind (true: a truth value). -/
def cellK (b : Bool) (z : Int) : Value := if b then .bool (decide (z = 1)) else .int .i64 z
/-- Whatever of type t is read as data is cells of these kinds. -/
def AllK (P : Program) (t : TypeId) (ks : List Bool) : Prop :=
  ∀ {H : Type} {enc : TypeId × Value → H} {w : World} {base : Nat} {spare : Nat → Bool} {held : Bool} {fuel : Nat} {cs : List Value} {x : DataW H × List MemPlace},
    DataW.trod enc P w base spare held fuel t cs = some x → ∃ zs : List Int, cs = List.zipWith cellK ks zs ∧ zs.length = ks.length ∧ ∀ z ∈ zs, (Lit.int .i64 z).wf = true
theorem AllK.int {P : Program} {t : TypeId} (ht : P.underlying t = some (.int .i64)) : AllK P t [false] := by
  intro H enc w base spare held fuel cs x h
  obtain ⟨n, rfl, rfl, hw⟩ := DataW.trod_int ht h
  exact ⟨[n], rfl, rfl, by simpa using hw⟩
theorem AllK.bool {P : Program} {t : TypeId} (ht : P.underlying t = some .bool) : AllK P t [true] := by
  intro H enc w base spare held fuel cs x h
  obtain ⟨b, rfl, rfl⟩ := DataW.trod_bool ht h
  exact ⟨[if b then 1 else 0], by cases b <;> rfl, rfl, by cases b <;> simp <;> decide⟩
/-- From offset o on the fields cover cells of these kinds. -/
def SegsK (P : Program) : Nat → List Field → List Bool → Prop
  | _, [], ks => ks = []
  | o, f :: fs, ks => ∃ k m, f.offset = o ∧ P.cellsOf f.type = k.length ∧ AllK P f.type k ∧ SegsK P (o + k.length) fs m ∧ ks = k ++ m
theorem segsK_cells {P : Program} {H : Type} {enc : TypeId × Value → H} {w : World} {base : Nat} {spare : Nat → Bool} {held : Bool} {fuel : Nat} {cs : List Value} :
    ∀ (fs : List Field) (o : Nat) (ks : List Bool), SegsK P o fs ks → o + ks.length ≤ cs.length →
      (∀ f ∈ fs, ∃ x, DataW.trod enc P w base spare held fuel f.type ((cs.drop f.offset).take (P.cellsOf f.type)) = some x) →
      ∃ zs : List Int, (cs.drop o).take ks.length = List.zipWith cellK ks zs ∧ zs.length = ks.length ∧ ∀ z ∈ zs, (Lit.int .i64 z).wf = true
  | [], o, ks, h, _, _ => by
    obtain rfl : ks = [] := h
    exact ⟨[], by simp, rfl, by simp⟩
  | f :: fs, o, ks, h, hl, hf => by
    obtain ⟨k, m, rfl, hC, hA, hS, rfl⟩ := h
    rw [List.length_append] at hl
    obtain ⟨x, hx⟩ := hf f (by simp)
    obtain ⟨zs, h1, h2, h3⟩ := hA hx
    obtain ⟨zs', h1', h2', h3'⟩ := segsK_cells fs _ m hS (by omega) (fun g hg => hf g (by simp [hg]))
    refine ⟨zs ++ zs', ?_, by simp [h2, h2'], fun z hz => ?_⟩
    · rw [hC] at h1
      rw [List.length_append, List.take_add, h1, List.drop_drop, h1', List.zipWith_append h2.symm]
    · rcases List.mem_append.1 hz with hz | hz
      · exact h3 z hz
      · exact h3' z hz
theorem AllK.struct {P : Program} {t : TypeId} {fs : Array Field} {ks : List Bool} (ht : P.underlying t = some (.struct fs)) (hC : P.cellsOf t = ks.length) (hS : SegsK P 0 fs.toList ks) : AllK P t ks := by
  intro H enc w base spare held fuel cs x h
  obtain ⟨ys, n', hn', hy, hlen, hyl, hf⟩ := DataW.trod_struct ht h
  obtain ⟨zs, h1, h2, h3⟩ := segsK_cells (enc := enc) (w := w) (base := base) (spare := spare) (held := held) (fuel := n') (cs := cs) fs.toList 0 ks hS (by omega) (fun f hm => by
    obtain ⟨j, hj⟩ := List.mem_iff_getElem?.1 hm
    have hj' : fs[j]? = some f := by simpa using hj
    have hlt : j < fs.size := (Array.getElem?_eq_some_iff.1 hj').1
    exact ⟨_, (hf j f hj').trans (List.getElem?_eq_getElem (by omega))⟩)
  refine ⟨zs, ?_, h2, h3⟩
  rw [← h1, List.drop_zero, List.take_of_length_le (by omega)]

/-- A slice value, each element cells of these kinds: zs is the row of cells. -/
def IsRowsK (ks : List Bool) (w : World) (a : Option Addr) (len cap : Nat) (zs : List Int) : Prop :=
  (a = none ∧ len = 0 ∧ cap = 0 ∧ zs = []) ∨
  ∃ x, a = some x ∧ len ≤ cap ∧ cap ≤ maxLen ∧ len * ks.length ≤ zs.length ∧ (∀ i, i < zs.length → w.cell? (x.add i) = some (cellK (ks.getD (i % ks.length) false) (zs.getD i 0))) ∧ ∀ z ∈ zs, (Lit.int .i64 z).wf = true
theorem IsRowsK.open {ks : List Bool} {w : World} {a : Option Addr} {len cap : Nat} {zs : List Int} (h : IsRowsK ks w a len cap zs) (hn : 0 < ks.length) (hp : 0 < len) :
    ∃ b off, a = some ⟨b, off, none⟩ ∧ b < w.heap.size ∧ len * ks.length ≤ zs.length ∧ len ≤ cap ∧ cap ≤ maxLen ∧ (∀ j, j < zs.length → w.cell? ⟨b, off + j, none⟩ = some (cellK (ks.getD (j % ks.length) false) (zs.getD j 0))) ∧ ∀ z ∈ zs, (Lit.int .i64 z).wf = true := by
  rcases h with ⟨_, h0, _⟩ | ⟨x, rfl, h1, h2, h3, h4, h5⟩
  · omega
  · have hpos : 0 < zs.length := Nat.lt_of_lt_of_le (Nat.mul_pos hp hn) h3
    obtain ⟨b, off, q⟩ := x
    have h0 := h4 0 hpos
    have hq : q = none := by simpa [Addr.add] using World.cell?_spot h0
    subst hq
    have hc : ∀ j, j < zs.length → w.cell? ⟨b, off + j, none⟩ = some (cellK (ks.getD (j % ks.length) false) (zs.getD j 0)) := fun j hj => by
      have := h4 j hj
      rwa [Addr.add_lit] at this
    exact ⟨b, off, rfl, World.block_lt_of_cell? w ⟨b, off + 0, none⟩ (hc 0 hpos), h3, h1, h2, hc, h5⟩

theorem isRowsK_of {P : Program} {H : Type} {enc : TypeId × Value → H} {w : World} {base : Nat} {spare : Nat → Bool} {held : Bool} {fuel : Nat} {t e : TypeId} {ks : List Bool} (hn : 0 < ks.length) (ht : P.underlying t = some (.slice e)) (hC : P.cellsOf e = ks.length) (hA : AllK P e ks)
    {a : Option Addr} {len cap : Nat} {x : DataW H × List MemPlace} (h : DataW.trod enc P w base spare held fuel t (Value.slice a len cap).cells.toList = some x) : ∃ zs, IsRowsK ks w a len cap zs := by
  rcases open_slice ht h with ⟨hcs, _⟩ | ⟨x, l, c, m, n', D, Pl, hcs, hb, hl, hm, hmm, hx, hi⟩
  · simp [Value.cells] at hcs
    obtain ⟨rfl, rfl, rfl⟩ := hcs
    exact ⟨[], .inl ⟨rfl, rfl, rfl, rfl⟩⟩
  · simp [Value.cells] at hcs
    obtain ⟨rfl, rfl, rfl⟩ := hcs
    rw [hC] at hi
    have hel : ∀ i, i < m → ∃ zs : List Int, zs.length = ks.length ∧ (∀ j, j < ks.length → w.cell? (x.add (i * ks.length + j)) = some (cellK (ks.getD j false) (zs.getD j 0))) ∧ ∀ z ∈ zs, (Lit.int .i64 z).wf = true := by
      intro i him
      obtain ⟨cs', hc, ht'⟩ := hi i him
      obtain ⟨zs, rfl, h2, h3⟩ := hA ht'
      obtain ⟨_, hcl, hat⟩ := World.cells?_some hc
      refine ⟨zs, h2, fun j hj => ?_, h3⟩
      rw [← add_add, hat j hj]
      simp [List.getD, h2, hj, List.getElem?_zipWith]
    have hex : ∃ f : Nat → List Int, ∀ i, i < m → (f i).length = ks.length ∧ (∀ j, j < ks.length → w.cell? (x.add (i * ks.length + j)) = some (cellK (ks.getD j false) ((f i).getD j 0))) ∧ ∀ z ∈ f i, (Lit.int .i64 z).wf = true :=
      ⟨fun i => if h : i < m then Classical.choose (hel i h) else [], fun i h => by simp only [dif_pos h]; exact Classical.choose_spec (hel i h)⟩
    obtain ⟨f, hf⟩ := hex
    have hml : len ≤ m := by rw [hmm]; split <;> omega
    have hdm : ∀ i, i < m * ks.length → i / ks.length < m ∧ i % ks.length < ks.length ∧ i / ks.length * ks.length + i % ks.length = i := fun i hi => ⟨Nat.div_lt_of_lt_mul (by rwa [Nat.mul_comm] at hi), Nat.mod_lt _ hn, by rw [Nat.mul_comm]; exact Nat.div_add_mod i ks.length⟩
    refine ⟨(List.range (m * ks.length)).map (fun i => (f (i / ks.length)).getD (i % ks.length) 0), .inr ⟨x, rfl, hl, hm, ?_, fun i hi => ?_, fun z hz => ?_⟩⟩
    · simp only [List.length_map, List.length_range]
      exact Nat.mul_le_mul_right ks.length hml
    · simp only [List.length_map, List.length_range] at hi
      obtain ⟨h1, h2, h3⟩ := hdm i hi
      have := (hf _ h1).2.1 _ h2
      rw [h3] at this
      rw [this]
      simp [List.getD, hi]
    · obtain ⟨i, hi, rfl⟩ := List.mem_map.1 hz
      obtain ⟨h1, h2, h3⟩ := hdm i (List.mem_range.1 hi)
      obtain ⟨g1, _, g3⟩ := hf _ h1
      refine g3 _ ?_
      simp [List.getD, g1, h2]
end Go.Proofs.YtfecgcdceegdlaaDoor
