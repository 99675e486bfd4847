/- Limits in memory, their map's block by name; what Set, Get, All, Sum do to them. -/
import Derived.Test.YtkdmedmlbglgmaaDoorCapsFirst
import Derived.Test.YtkdmedmlbglgmaaDoorCapsSet
import Derived.Test.YtkdmedmlbglgmaaDoorPlayKit
import Derived.Test.YtkdmedmlbglgmaaDoorSortL
namespace Go.Proofs.YtkdmedmlbglgmaaDoor
open Go.Maps
open Go Go.RowKit
set_option linter.unusedSimpArgs false
set_option linter.unusedVariables false

/-- Limits at block b: their map's block is r. -/
structure CapsR (w : World) (b : Nat) (r : Option Nat) (m : Lims) : Prop where
  cmap : w.cell? ⟨b, 0, none⟩ = some (.map r)
  map : LimMap w r m
  free : w.frozen? ⟨b, 0, none⟩ = false
theorem CapsR.at {w : World} {b : Nat} {r : Option Nat} {m : Lims} (h : CapsR w b r m) : CapsAt w b 0 m := ⟨r, h.cmap, h.map⟩
theorem CapsR.lt {w : World} {b : Nat} {r : Option Nat} {m : Lims} (h : CapsR w b r m) : b < w.heap.size := World.block_lt_of_cell? w ⟨b, 0, none⟩ h.cmap
theorem CapsR.keep {S : Nat → Prop} {w w' : World} {b : Nat} {r : Option Nat} {m : Lims} (h : CapsR w b r m) (k : Keep S w w') (hb : ¬ S b) (hr : ∀ x, r = some x → ¬ S x) : CapsR w' b r m :=
  ⟨(k.cell (x := ⟨b, 0, none⟩) h.lt hb).trans h.cmap, h.map.keep k hr, (k.frozen (x := ⟨b, 0, none⟩) h.lt hb).trans h.free⟩
theorem CapsR.below {w w' : World} {b : Nat} {r : Option Nat} {m : Lims} (h : CapsR w b r m) (k : Below w.heap.size w w') : CapsR w' b r m :=
  h.keep (S := fun _ => False) (Keep.of_below k) (fun h => h) (fun _ _ h => h)
theorem capsR_new (w : World) : CapsR (w.alloc (Obj.cells #[.map none] 25)) w.heap.size none [] := ⟨by go_simp, .inl ⟨rfl, rfl⟩, by go_simp⟩
theorem capsR_set {ks : List Nat} {C : Nat} {p : Nat → Addr} {w : World} (hE : Errs ks C p w) (h2 : 2 ∈ ks) {b : Nat} {r : Option Nat} {m : Lims} (h : CapsR w b r m) (s k v : Int) :
    Calls Tryd.prog 9 #[.pointer (some ⟨b, 0, none⟩), .agg #[.int .i64 s, .int .i64 k], .int .i64 v] w fun e w' => e = .returned (okV p (limOK s k v)) ∧
      ∃ r', CapsR w' b r' (lset m s k v) ∧ (r' = r ∨ ∃ nb, r' = some nb ∧ w.heap.size ≤ nb) ∧ Keep (fun x => x = b ∨ r = some x) w w' := by
  cases hok : limOK s k v with
  | false =>
    refine (limSet_bad hE h2 _ s k v hok).mono ?_
    rintro e w' ⟨rfl, hb⟩
    have hl : lset m s k v = m := by unfold lset; rw [hok]; rfl
    rw [hl]
    exact ⟨rfl, r, h.below hb, .inl rfl, Keep.of_below hb⟩
  | true =>
    refine (limSet_ok h.cmap h.free h.map s k v hok).mono ?_
    rintro e w' ⟨rfl, r', hm', hf⟩
    exact ⟨rfl, r', ⟨hf.cell, hm', (hf.froz 0).trans h.free⟩, hf.now, hf.keep⟩
end Go.Proofs.YtkdmedmlbglgmaaDoor
