/- A block of cells as a function; answers as errors and numbers; where a map's block lies. -/
import Derived.Test.YtchbkceconlbkaaGreatDoorMap
import Derived.Test.YtchbkceconlbkaaGreatDoorSee
namespace Go.Proofs.YtchbkceconlbkaaGreatDoor
open Go.Maps
open Go Go.RowKit
set_option linter.unusedSimpArgs false
set_option linter.unusedVariables false

/-- Block g's first n cells read f. -/
structure Arr (w : World) (g n : Nat) (f : Nat → Value) : Prop where
  cell : ∀ j, j < n → w.cell? ⟨g, j, none⟩ = some (f j)
  free : ∀ j, j < n → w.frozen? ⟨g, j, none⟩ = false
theorem Arr.below {w w' : World} {g n : Nat} {f : Nat → Value} (h : Arr w g n f) (hg : g < w.heap.size) (k : Below w.heap.size w w') : Arr w' g n f :=
  ⟨fun j hj => (k.cell (p := ⟨g, j, none⟩) hg).trans (h.cell j hj), fun j hj => (k.frozen (p := ⟨g, j, none⟩) hg).trans (h.free j hj)⟩
theorem Arr.lt {w : World} {g n : Nat} {f : Nat → Value} (h : Arr w g n f) (hn : 0 < n) : g < w.heap.size := World.block_lt_of_cell? w ⟨g, 0, none⟩ (h.cell 0 hn)
theorem Arr.keep {S : Nat → Prop} {w w' : World} {g n : Nat} {f : Nat → Value} (h : Arr w g n f) (hn : 0 < n) (k : Keep S w w') (hs : ¬ S g) : Arr w' g n f :=
  ⟨fun j hj => (k.cell (x := ⟨g, j, none⟩) (h.lt hn) hs).trans (h.cell j hj), fun j hj => (k.frozen (x := ⟨g, j, none⟩) (h.lt hn) hs).trans (h.free j hj)⟩
theorem Arr.set {w : World} {g n : Nat} {f : Nat → Value} (h : Arr w g n f) {j0 : Nat} (hj : j0 < n) (v : Value) : Arr (w.setCell ⟨g, j0, none⟩ v) g n (fun j => if j = j0 then v else f j) := by
  refine ⟨fun j hj' => ?_, fun j hj' => ?_⟩
  · by_cases e : j = j0
    · subst e
      rw [if_pos rfl]
      exact World.cell?_setCell_same' w _ _ (by rw [h.cell j hj']; rfl)
    · rw [if_neg e, cell_setCell_other e]
      exact h.cell j hj'
  · rw [frozen_setCell]
    exact h.free j hj'
theorem Arr.congr {w : World} {g n : Nat} {f f' : Nat → Value} (h : Arr w g n f) (he : ∀ j, j < n → f j = f' j) : Arr w g n f' :=
  ⟨fun j hj => (h.cell j hj).trans (by rw [he j hj]), h.free⟩
theorem arr_new (w : World) (cs : Array Value) (T : TypeId) (n : Nat) (f : Nat → Value) (h : cs.toList = (List.range n).map f) : Arr (w.alloc (.cells cs T)) w.heap.size n f := by
  have hc : ∀ j, j < n → cs[j]? = some (f j) := fun j hj => by
    rw [← Array.getElem?_toList, h]
    simp [hj]
  refine ⟨fun j hj => ?_, fun j hj => ?_⟩
  · simp only [World.cell?, World.alloc, Array.getElem?_push, if_true]
    simpa using hc j hj
  · simp only [World.frozen?, World.alloc, Array.getElem?_push, if_true]
    simp
/-- Where the map's block may lie. -/
def Rok (s lb yb : Nat) (r : Option Nat) : Prop := ∀ x, r = some x → s ≤ x ∧ x ≠ yb ∧ x ≠ lb
theorem Rok.next {s lb yb sz : Nat} {r r' : Option Nat} (h : Rok s lb yb r) (hr : r' = r ∨ ∃ nb, r' = some nb ∧ sz ≤ nb) (h1 : s ≤ sz) (h2 : yb < sz) (h3 : lb < sz) : Rok s lb yb r' := by
  rcases hr with rfl | ⟨nb, rfl, hnb⟩
  · exact h
  · intro x hx
    cases hx
    exact ⟨by omega, by omega, by omega⟩

/-- The answer as an error, and as the reference's number. -/
def okV (p : Nat → Addr) (ok : Bool) : Value := if ok then .nilIface else ev p 2
def okN (ok : Bool) : Int := if ok then 0 else 103
theorem is_okV {B : Nat} {p : Nat → Addr} {w : World} (hE : Errs (List.range 21) B p w) (ok : Bool) :
    Calls Tryz.prog 7 #[okV p ok, .int .i64 (okN ok)] w fun e w' => e = .returned (.bool true) ∧ Below w.heap.size w w' := by
  cases ok with
  | true => exact is_nil 0 w
  | false => exact is_ev hE (k := 2) (by decide) 103

theorem mput_length_le {m : List ((Int × Int) × Int)} (k : Int × Int) (v : Int) : (mput m k v).length ≤ m.length + 1 := by
  have := congrArg List.length (mkeys_mput m k v)
  rw [List.length_map] at this
  rw [this]
  split <;> simp
theorem mem_keys_iff {m : List ((Int × Int) × Int)} (k : Int × Int) : k ∈ m.map (·.1) ↔ (mget m k).isSome = true := by
  constructor
  · intro h
    cases hg : mget m k with
    | none =>
      rw [mget_none] at hg
      obtain ⟨x, hx, hk⟩ := List.mem_map.1 h
      exact absurd hk (hg x hx)
    | some v => rfl
  · intro h
    cases hg : mget m k with
    | none => rw [hg] at h; cases h
    | some v => exact List.mem_map.2 ⟨_, mget_mem hg, rfl⟩
end Go.Proofs.YtchbkceconlbkaaGreatDoor
