/- A disk in memory: its six cells, its two maps of sectors; disk.New, Pending, Calls, Down, Arm. -/
import Derived.Test.YtehacchacgfjlaaDoorDisk1
namespace Go.Proofs.YtehacchacgfjlaaDoor
open Go.Maps
open Go Go.RowKit
set_option linter.unusedSimpArgs false
set_option linter.unusedVariables false

/-- Sectors: number, the slice's value, its bytes. -/
abbrev SecL := List (Int × (Value × List Int))
abbrev secV (x : Value × List Int) : Value := x.1
theorem secKeyed : Keyed Tryd.prog 3 := int_keyed Tryd.underlying3
theorem secKey (k : Int) (h : (Lit.int .i64 k).wf = true) : ∃ l, keyOf Tryd.prog 3 (i64V k) = some l := ⟨_, keyOf_int_mk Tryd.underlying3 h⟩
theorem secInj (a c : Int) (h : i64V a = i64V c) : a = c := by simpa [i64V] using h
/-- A map of sectors in memory. -/
structure SecMap (w : World) (r : Nat) (m : SecL) : Prop where
  map : MapV Tryd.prog 3 i64V secV w (some r) m
  rd : ∀ x ∈ m, RdB w x.2.1 x.2.2 ∧ x.2.2.length = 128
theorem SecMap.below {w w' : World} {r : Nat} {m : SecL} (h : SecMap w r m) (k : Below w.heap.size w w') : SecMap w' r m :=
  ⟨h.map.below k, fun x hx => ⟨(h.rd x hx).1.below k, (h.rd x hx).2⟩⟩
/-- Nothing in a block is a byte. -/
def NoByte (w : World) (b : Nat) : Prop := ∀ o x, w.cell? ⟨b, o, none⟩ ≠ some (bV x)
theorem NoByte.of_cell {w w' : World} {b : Nat} (h : NoByte w b) (hc : ∀ o, w'.cell? ⟨b, o, none⟩ = w.cell? ⟨b, o, none⟩) : NoByte w' b := fun o x e => h o x ((hc o).symm.trans e)
theorem NoByte.set {w : World} {b o : Nat} {v : Value} (h : NoByte w b) (hv : ∀ x, v ≠ bV x) : NoByte (w.setCell ⟨b, o, none⟩ v) b := by
  intro o' x e
  by_cases ho : o' = o
  · subst ho
    simp only [World.cell?, World.setCell, Array.getElem?_modify, if_true] at e
    cases hb : w.heap[b]? with
    | none => simp [hb] at e
    | some ob =>
      cases ob <;> simp [hb] at e
      rw [Array.getElem?_setIfInBounds, if_pos rfl] at e
      split at e
      · exact hv x (Option.some.inj e)
      · cases e
  · rw [cell_setCell_other ho] at e
    exact h o' x e
theorem NoByte.new (w : World) (cs : Array Value) (t : TypeId) (h : ∀ u ∈ cs.toList, ∀ x, u ≠ bV x) : NoByte (w.alloc (.cells cs t)) w.heap.size := by
  intro o x e
  simp only [World.cell?, World.alloc, Array.getElem?_push, if_true] at e
  have e' : cs[o]? = some (bV x) := e
  exact h _ (by rw [← Array.getElem?_toList] at e'; exact List.mem_of_getElem? e') x rfl
/-- A disk at block d: how many sectors, what was flushed (map at block fb), what is pending (map at block pb), calls, fuse, down. -/
structure Dsk (lo : Nat) (w : World) (d : Nat) (n : Int) (fb pb : Nat) (F P : SecL) (calls fuse : Int) (down : Bool) : Prop where
  c0 : w.cell? ⟨d, 0, none⟩ = some (.int .i64 n)
  c1 : w.cell? ⟨d, 1, none⟩ = some (.map (some fb))
  c2 : w.cell? ⟨d, 2, none⟩ = some (.map (some pb))
  c3 : w.cell? ⟨d, 3, none⟩ = some (.int .i64 calls)
  c4 : w.cell? ⟨d, 4, none⟩ = some (.int .i64 fuse)
  c5 : w.cell? ⟨d, 5, none⟩ = some (.bool down)
  free : ∀ o, w.frozen? ⟨d, o, none⟩ = false
  fl : SecMap w fb F
  pe : SecMap w pb P
  lo_ : lo ≤ d ∧ lo ≤ fb ∧ lo ≤ pb
  ne : fb ≠ pb ∧ fb ≠ d ∧ pb ≠ d
  ap : ∀ x, x ∈ F ∨ x ∈ P → ∀ g, x.2.1.ownBlock = some g → g ≠ d
  nb : NoByte w d
section
variable {lo : Nat} {w w' : World} {d : Nat} {n : Int} {fb pb : Nat} {F P : SecL} {calls fuse : Int} {down : Bool}
theorem Dsk.lt (h : Dsk lo w d n fb pb F P calls fuse down) : d < w.heap.size := World.block_lt_of_cell? w _ h.c0
theorem Dsk.below (h : Dsk lo w d n fb pb F P calls fuse down) (k : Below w.heap.size w w') : Dsk lo w' d n fb pb F P calls fuse down := by
  have hl := h.lt
  have hc : ∀ o u, w.cell? ⟨d, o, none⟩ = some u → w'.cell? ⟨d, o, none⟩ = some u := fun o u hu => (k.cell (p := ⟨d, o, none⟩) hl).trans hu
  exact ⟨hc _ _ h.c0, hc _ _ h.c1, hc _ _ h.c2, hc _ _ h.c3, hc _ _ h.c4, hc _ _ h.c5, fun o => (k.frozen (p := ⟨d, o, none⟩) hl).trans (h.free o), h.fl.below k, h.pe.below k, h.lo_, h.ne, h.ap, h.nb.of_cell fun o => k.cell (p := ⟨d, o, none⟩) hl⟩
theorem pending_calls (h : Dsk lo w d n fb pb F P calls fuse down) :
    Calls Tryd.prog 20 #[.pointer (some ⟨d, 0, none⟩)] w fun e w' => e = .returned (.int .i64 (P.length : Int)) ∧ w = w' := by
  have hl := h.pe.map.len (ty := 3) Tryd.underlying119
  have c2 := h.c2
  clear h
  go_enter Tryd.func20, Tryd.ntmps20
  go_wp2_with fail
  go_ret
  exact ⟨rfl, rfl⟩
theorem diskCalls_calls (h : Dsk lo w d n fb pb F P calls fuse down) :
    Calls Tryd.prog 21 #[.pointer (some ⟨d, 0, none⟩)] w fun e w' => e = .returned (.int .i64 calls) ∧ w = w' := by
  have c3 := h.c3
  clear h
  go_enter Tryd.func21, Tryd.ntmps21
  go_wp2_with fail
  go_ret
  exact ⟨rfl, rfl⟩
theorem down_calls (h : Dsk lo w d n fb pb F P calls fuse down) :
    Calls Tryd.prog 28 #[.pointer (some ⟨d, 0, none⟩)] w fun e w' => e = .returned (.bool down) ∧ w = w' := by
  have c5 := h.c5
  clear h
  go_enter Tryd.func28, Tryd.ntmps28
  go_wp2_with fail
  go_ret
  exact ⟨rfl, rfl⟩
end
set_option maxRecDepth 100000 in
theorem new_calls (n : Int) (h1 : 1 ≤ n) (h2 : n ≤ 8192) (w : World) :
    Calls Tryd.prog 17 #[.int .i64 n] w fun e w' => e = .returned (.tuple #[.pointer (some ⟨w.heap.size + 2, 0, none⟩), .nilIface]) ∧ Dsk w.heap.size w' (w.heap.size + 2) n w.heap.size (w.heap.size + 1) [] [] 0 0 false ∧ Below w.heap.size w w' := by
  have hmm := @run_makeMap Tryd.prog
  go_enter Tryd.func17, Tryd.ntmps17
  go_wp2_with fail
  go_ret2
  have m1 : MapV Tryd.prog 3 i64V secV (w.alloc (Obj.map #[] 0)) (some w.heap.size) [] := .inr ⟨_, rfl, MapAt.made w⟩
  have m2 : MapV Tryd.prog 3 i64V secV ((w.alloc (Obj.map #[] 0)).alloc (Obj.map #[] 0)) (some (w.heap.size + 1)) [] := .inr ⟨_, rfl, by
    have := MapAt.made (β := Value × List Int) (P := Tryd.prog) (K := 3) (kv := i64V) (vv := secV) (w.alloc (Obj.map #[] 0))
    rwa [show (w.alloc (Obj.map #[] 0)).heap.size = w.heap.size + 1 by simp] at this⟩
  refine ⟨rfl, ⟨by go_simp, by go_simp, by go_simp, by go_simp, by go_simp, by go_simp, fun o => by go_simp, ⟨(m1.alloc _).alloc _, fun x hx => by cases hx⟩, ⟨m2.alloc _, fun x hx => by cases hx⟩, ⟨by omega, by omega, by omega⟩, ⟨by omega, by omega, by omega⟩, (fun x hx => by rcases hx with hx | hx <;> cases hx), ?_⟩, by (repeat (first | exact Below.refl _ _ | assumption | refine Below.drew ?_ | refine below_many ?_ _ | refine Below.alloc ?_ (by first | (simp; done) | (simp; omega) | omega) _ | refine Below.setCell ?_ (by first | (simp; done) | (simp; omega) | omega) _))⟩
  have hz : ((w.alloc (Obj.map #[] 0)).alloc (Obj.map #[] 0)).heap.size = w.heap.size + 2 := by simp
  rw [← hz]
  exact NoByte.new _ _ _ (by intro u hu x e; subst e; simp at hu)
end Go.Proofs.YtehacchacgfjlaaDoor
