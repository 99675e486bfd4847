/- General lemmas for this seat's walks: worlds that keep what is below a block, sentinels as cells. No program in sight. -/
import Derived.WalkKit
import Derived.KernelRfl
import Derived.Tactics2
import Derived.Outline
import Derived.WalkSpells
import Derived.WalkLawsBesides
import Derived.BigQuiet
import Derived.Deep.QuietTactic
import Derived.Below
import Derived.LaidEql
import Derived.Lib.Hide
import Derived.OpenShut
import Derived.Deep.Draws
namespace Go.Proofs.YtchbkceconlbkaaGreatDoor
open Go Go.RowKit
set_option linter.unusedSimpArgs false
set_option linter.unusedVariables false

/-- Of the blocks of w only those in S have turned; others are new. -/
structure Keep (S : Nat → Prop) (w w' : World) : Prop where
  os : w'.os = w.os
  tape : w'.tape = w.tape
  output : w'.output = w.output
  size : w.heap.size ≤ w'.heap.size
  block : ∀ k, k < w.heap.size → ¬ S k → w'.heap[k]? = w.heap[k]?

theorem Keep.refl (S : Nat → Prop) (w : World) : Keep S w w := ⟨rfl, rfl, rfl, Nat.le_refl _, fun _ _ _ => rfl⟩
theorem Keep.trans {S : Nat → Prop} {a b c : World} (h : Keep S a b) (k : Keep S b c) : Keep S a c :=
  ⟨k.os.trans h.os, k.tape.trans h.tape, k.output.trans h.output, Nat.le_trans h.size k.size,
    fun i hi hs => (k.block i (Nat.lt_of_lt_of_le hi h.size) hs).trans (h.block i hi hs)⟩
theorem Keep.mono {S S' : Nat → Prop} {a b : World} (h : Keep S a b) (hs : ∀ k, k < a.heap.size → S k → S' k) : Keep S' a b :=
  ⟨h.os, h.tape, h.output, h.size, fun i hi hn => h.block i hi (fun hk => hn (hs i hi hk))⟩
theorem Keep.below {S : Nat → Prop} {a b : World} {B : Nat} (h : Keep S a b) (hB : B ≤ a.heap.size) (hs : ∀ k, k < B → ¬ S k) : Below B a b :=
  ⟨h.os, h.tape, h.output, h.size, fun i hi => h.block i (by omega) (hs i hi)⟩
theorem Keep.of_below {S : Nat → Prop} {a b : World} (h : Below a.heap.size a b) : Keep S a b :=
  ⟨h.os, h.tape, h.output, h.size, fun i hi _ => h.block i hi⟩
theorem Keep.cell {S : Nat → Prop} {a b : World} (h : Keep S a b) {x : Addr} (hx : x.block < a.heap.size) (hs : ¬ S x.block) : b.cell? x = a.cell? x :=
  World.cell?_of_block (w := a) (h.block x.block hx hs)

/-- Behind a call that keeps what is below: all old cells and marks read as before. -/
theorem bcell {W w1 : World} (hb : Below W.heap.size W w1) : (∀ b o, b < W.heap.size → w1.cell? ⟨b, o, none⟩ = W.cell? ⟨b, o, none⟩) ∧ (∀ b o, b < W.heap.size → w1.frozen? ⟨b, o, none⟩ = W.frozen? ⟨b, o, none⟩) :=
  ⟨fun b o h => hb.cell (p := ⟨b, o, none⟩) h, fun b o h => hb.frozen (p := ⟨b, o, none⟩) h⟩

theorem below_many {B : Nat} {a w : World} (h : Below B a w) (n : Nat) : Below B a (w.drewN n) := ⟨h.os, h.tape, h.output, h.size, h.block⟩
theorem bstep {W w1 w2 : World} (HB : Below W.heap.size W w1) (hb : Below w1.heap.size w1 w2) : Below W.heap.size W w2 := HB.trans (hb.mono HB.size)

theorem bbase {w W w2 : World} (h : Below w.heap.size w W) (HB : Below W.heap.size W w2) : Below w.heap.size w w2 := h.trans (HB.mono h.size)

/-- A slice of integers that came in: nil; or a row of 'cap' cells, the numbers zs, of which the first 'len' are the elements. -/
def IsRow (k : IntKind) (w : World) (a : Option Addr) (len cap : Nat) (zs : List Int) : Prop :=
  (a = none ∧ len = 0 ∧ cap = 0 ∧ zs = []) ∨
  ∃ x, a = some x ∧ len ≤ cap ∧ cap ≤ maxLen ∧ zs.length = cap ∧ (∀ i, i < zs.length → w.cell? (x.add i) = some (.int k (zs.getD i 0))) ∧ ∀ n ∈ zs, (Lit.int k n).wf = true
theorem IsRow.open {k : IntKind} {w : World} {a : Option Addr} {len cap : Nat} {zs : List Int} (h : IsRow k w a len cap zs) (hp : 0 < len) :
    ∃ b off, a = some ⟨b, off, none⟩ ∧ b < w.heap.size ∧ len ≤ zs.length ∧ zs.length = cap ∧ cap ≤ maxLen ∧ (∀ j, j < zs.length → w.cell? ⟨b, off + j, none⟩ = some (.int k (zs.getD j 0))) ∧ ∀ n ∈ zs, (Lit.int k n).wf = true := by
  rcases h with ⟨_, h0, _⟩ | ⟨x, rfl, h1, h2, h3, h4, h5⟩
  · omega
  · obtain ⟨b, off, rfl, hc⟩ := ints_at h4 (by omega)
    exact ⟨b, off, rfl, World.block_lt_of_cell? w ⟨b, off + 0, none⟩ (hc 0 (by omega)), by omega, h3, h2, hc, h5⟩

/-- What a method that writes one map field leaves: the field's cell holds r', which is r or a new block; the rest of that block, and all else but r's own block, is as it was. -/
structure MapField (w w' : World) (b o : Nat) (r r' : Option Nat) : Prop where
  cell : w'.cell? ⟨b, o, none⟩ = some (.map r')
  others : ∀ o', o' ≠ o → w'.cell? ⟨b, o', none⟩ = w.cell? ⟨b, o', none⟩
  froz : ∀ o', w'.frozen? ⟨b, o', none⟩ = w.frozen? ⟨b, o', none⟩
  now : r' = r ∨ ∃ nb, r' = some nb ∧ w.heap.size ≤ nb
  keep : Keep (fun x => x = b ∨ r = some x) w w'
theorem cell_setCell_other {w : World} {b o o' : Nat} {v : Value} (h : o' ≠ o) : (w.setCell ⟨b, o, none⟩ v).cell? ⟨b, o', none⟩ = w.cell? ⟨b, o', none⟩ := by
  simp only [World.cell?, World.setCell, Array.getElem?_modify, if_true]
  cases hb : w.heap[b]? with
  | none => simp
  | some ob =>
    cases ob <;> simp
    rw [Array.getElem?_setIfInBounds, if_neg (fun e => h e.symm)]
theorem frozen_setCell {w : World} {b o o' : Nat} {v : Value} : (w.setCell ⟨b, o, none⟩ v).frozen? ⟨b, o', none⟩ = w.frozen? ⟨b, o', none⟩ := by
  simp only [World.frozen?, World.setCell, Array.getElem?_modify, if_true]
  cases hb : w.heap[b]? with
  | none => simp
  | some ob => cases ob <;> simp
theorem keep_setCell (w : World) (a : Addr) (v : Value) : Keep (fun x => x = a.block) w (w.setCell a v) :=
  ⟨rfl, rfl, rfl, by simp [World.setCell], fun k _ hn => Below.heap_setCell w a v k hn⟩
theorem Keep.frozen {S : Nat → Prop} {a b : World} (h : Keep S a b) {x : Addr} (hx : x.block < a.heap.size) (hs : ¬ S x.block) : b.frozen? x = a.frozen? x :=
  World.frozen?_of_block (w := a) (h.block x.block hx hs)

/-- The sentinels ks lie below B: the package-level variable gl k points to a block of its own, p k. -/
structure ErrW (T : TypeId) (gl : Nat → Nat) (ks : List Nat) (B : Nat) (p : Nat → Addr) (w : World) : Prop where
  size : B ≤ w.heap.size
  lt : ∀ k ∈ ks, gl k < B ∧ (p k).block < B
  cell : ∀ k ∈ ks, w.cell? ⟨gl k, 0, none⟩ = some (.iface T (.pointer (some (p k))))
  row : ∀ k ∈ ks, ∃ c t, w.heap[(p k).block]? = some (.cells c t (0, 0))
  inj : ∀ k ∈ ks, ∀ j ∈ ks, p k = p j → k = j

section
variable {T : TypeId} {gl : Nat → Nat} {ks : List Nat} {B : Nat} {p : Nat → Addr} {w w' : World}
theorem ErrW.below (h : ErrW T gl ks B p w) (k : Below B w w') : ErrW T gl ks B p w' :=
  ⟨Nat.le_trans h.size k.size, h.lt,
    fun g hg => by rw [k.cell (h.lt g hg).1]; exact h.cell g hg,
    fun g hg => by rw [k.block _ (h.lt g hg).2]; exact h.row g hg, h.inj⟩
theorem ErrW.sub {ks' : List Nat} (h : ErrW T gl ks B p w) (hs : ∀ g ∈ ks', g ∈ ks) : ErrW T gl ks' B p w :=
  ⟨h.size, fun g hg => h.lt g (hs g hg), fun g hg => h.cell g (hs g hg), fun g hg => h.row g (hs g hg), fun g hg g' hg' => h.inj g (hs g hg) g' (hs g' hg')⟩
end

/-- A sentinel's value. -/
def errV (T : TypeId) (p : Nat → Addr) (k : Nat) : Value := .iface T (.pointer (some (p k)))

end Go.Proofs.YtchbkceconlbkaaGreatDoor
