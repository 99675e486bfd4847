/- More of maps in memory: delete at a map's value. -/
import Derived.Test.YtchbkceconlbkaaGreatDoorMap
namespace Go.Proofs.YtchbkceconlbkaaGreatDoor
open Go.MapKept Go.Maps
open Go Go.RowKit
set_option linter.unusedSimpArgs false
set_option linter.unusedVariables false

section
variable {α β : Type} [DecidableEq α] {P : Program} {K : TypeId} {kv : α → Value} {vv : β → Value} {m : List (α × β)} {w : World} {t e : TypeId}
theorem MapV.drop {ty : TypeId} {b : Nat} (L : Keyed P K) (inj : ∀ a c, kv a = kv c → a = c) (ht : P.underlying t = some (.map K e)) (h : MapV P K kv vv w (some b) m) {k : α} (hk : ∃ l, keyOf P K (kv k) = some l) :
    ∃ w', (Builtin.delete_ #[t, K] ty #[.map (some b), kv k]).run P w = .ok (.tuple #[]) w' ∧ MapV P K kv vv w' (some b) (mdel m k) ∧ Keep (fun x => x = b) w w' ∧ w'.heap.size = w.heap.size := by
  rcases h with ⟨h, _⟩ | ⟨b', hr, h⟩
  · cases h
  · cases hr
    obtain ⟨ob, h3, h4⟩ := h.drop (ty := ty) L inj ht hk
    exact ⟨_, h3, .inr ⟨b, rfl, h4⟩, ⟨rfl, rfl, rfl, by simp, fun i _ hi => by simp [Array.getElem?_setIfInBounds, show b ≠ i from fun e => hi e.symm]⟩, by simp⟩
end
end Go.Proofs.YtchbkceconlbkaaGreatDoor
