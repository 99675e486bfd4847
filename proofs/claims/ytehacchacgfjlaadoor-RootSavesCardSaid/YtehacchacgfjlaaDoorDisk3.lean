/- A disk's stores into its own cells; (*disk.Disk).gone. -/
import Derived.Test.YtehacchacgfjlaaDoorDisk2
namespace Go.Proofs.YtehacchacgfjlaaDoor
open Go.Maps
open Go Go.RowKit
set_option linter.unusedSimpArgs false
set_option linter.unusedVariables false

theorem RdB.keep {S : Nat → Prop} {w w' : World} {v : Value} {bs : List Int} (h : RdB w v bs) (k : Keep S w w') (hs : ∀ g, v.ownBlock = some g → ¬ S g) : RdB w' v bs := by
  rcases h with h | ⟨g, off, cap, rfl, h1, h2, h3, h4⟩
  · exact .inl h
  · exact .inr ⟨g, off, cap, rfl, h1, h2, Nat.lt_of_lt_of_le h3 k.size, fun i hi => (k.cell (x := ⟨g, off + i, none⟩) h3 (hs g rfl)).trans (h4 i hi)⟩
theorem SecMap.keep {S : Nat → Prop} {w w' : World} {r : Nat} {m : SecL} (h : SecMap w r m) (k : Keep S w w') (hr : ¬ S r) (hs : ∀ x ∈ m, ∀ g, x.2.1.ownBlock = some g → ¬ S g) : SecMap w' r m :=
  ⟨h.map.keep k fun b hb => by cases hb; exact hr, fun x hx => ⟨(h.rd x hx).1.keep k (hs x hx), (h.rd x hx).2⟩⟩
section
variable {lo : Nat} {w w' : World} {d : Nat} {n : Int} {fb pb : Nat} {F P : SecL} {calls fuse : Int} {down : Bool}
theorem Dsk.setFuse (h : Dsk lo w d n fb pb F P calls fuse down) (f : Int) : Dsk lo (w.setCell ⟨d, 4, none⟩ (.int .i64 f)) d n fb pb F P calls f down := by
  have k := keep_setCell w ⟨d, 4, none⟩ (.int .i64 f)
  refine ⟨?_, ?_, ?_, ?_, World.cell?_setCell_same' w _ _ (by rw [h.c4]; rfl), ?_, fun o => (frozen_setCell).trans (h.free o), h.fl.keep k h.ne.2.1 fun x hx g hg => h.ap x (.inl hx) g hg, h.pe.keep k h.ne.2.2 fun x hx g hg => h.ap x (.inr hx) g hg, h.lo_, h.ne, h.ap, h.nb.set (by intro x e; cases e)⟩
  · rw [cell_setCell_other (by decide)]; exact h.c0
  · rw [cell_setCell_other (by decide)]; exact h.c1
  · rw [cell_setCell_other (by decide)]; exact h.c2
  · rw [cell_setCell_other (by decide)]; exact h.c3
  · rw [cell_setCell_other (by decide)]; exact h.c5
theorem Dsk.setDown (h : Dsk lo w d n fb pb F P calls fuse down) (f : Bool) : Dsk lo (w.setCell ⟨d, 5, none⟩ (.bool f)) d n fb pb F P calls fuse f := by
  have k := keep_setCell w ⟨d, 5, none⟩ (.bool f)
  refine ⟨?_, ?_, ?_, ?_, ?_, World.cell?_setCell_same' w _ _ (by rw [h.c5]; rfl), fun o => (frozen_setCell).trans (h.free o), h.fl.keep k h.ne.2.1 fun x hx g hg => h.ap x (.inl hx) g hg, h.pe.keep k h.ne.2.2 fun x hx g hg => h.ap x (.inr hx) g hg, h.lo_, h.ne, h.ap, h.nb.set (by intro x e; cases e)⟩
  · rw [cell_setCell_other (by decide)]; exact h.c0
  · rw [cell_setCell_other (by decide)]; exact h.c1
  · rw [cell_setCell_other (by decide)]; exact h.c2
  · rw [cell_setCell_other (by decide)]; exact h.c3
  · rw [cell_setCell_other (by decide)]; exact h.c4
theorem Dsk.setCalls (h : Dsk lo w d n fb pb F P calls fuse down) (f : Int) : Dsk lo (w.setCell ⟨d, 3, none⟩ (.int .i64 f)) d n fb pb F P f fuse down := by
  have k := keep_setCell w ⟨d, 3, none⟩ (.int .i64 f)
  refine ⟨?_, ?_, ?_, World.cell?_setCell_same' w _ _ (by rw [h.c3]; rfl), ?_, ?_, fun o => (frozen_setCell).trans (h.free o), h.fl.keep k h.ne.2.1 fun x hx g hg => h.ap x (.inl hx) g hg, h.pe.keep k h.ne.2.2 fun x hx g hg => h.ap x (.inr hx) g hg, h.lo_, h.ne, h.ap, h.nb.set (by intro x e; cases e)⟩
  · rw [cell_setCell_other (by decide)]; exact h.c0
  · rw [cell_setCell_other (by decide)]; exact h.c1
  · rw [cell_setCell_other (by decide)]; exact h.c2
  · rw [cell_setCell_other (by decide)]; exact h.c4
  · rw [cell_setCell_other (by decide)]; exact h.c5
/-- gone where the fuse burns: a call nearer; down at 0. -/
def goneF (fuse : Int) (down : Bool) : Int := if down = false ∧ 0 < fuse then fuse - 1 else fuse
def goneD (fuse : Int) (down : Bool) : Bool := if down = false ∧ 0 < fuse then (fuse - 1 == 0) else down
set_option maxRecDepth 100000 in
theorem gone_calls (h : Dsk lo w d n fb pb F P calls fuse down) (hf : fuse ≤ 4611686018427387904) :
    Calls Tryd.prog 63 #[.pointer (some ⟨d, 0, none⟩)] w fun e w' => e = .returned (.bool (goneD fuse down)) ∧ Dsk lo w' d n fb pb F P calls (goneF fuse down) (goneD fuse down) ∧ Keep (fun x => x = d) w w' := by
  have HD := Lib.hid h
  have c4 := h.c4
  have c5 := h.c5
  have f4 := h.free 4
  have f5 := h.free 5
  clear h
  cases down with
  | true =>
    have hE : Hid (goneF fuse true = fuse ∧ goneD fuse true = true) := ⟨by simp [goneF], by simp [goneD]⟩
    go_enter Tryd.func63, Tryd.ntmps63
    go_wp2_with fail
    go_ret
    rw [hE.out.1, hE.out.2]
    exact ⟨rfl, HD.out, Keep.refl _ _⟩
  | false =>
    by_cases h0 : 0 < fuse
    · have hE : Hid (goneF fuse false = fuse - 1 ∧ goneD fuse false = (fuse - 1 == 0)) := ⟨by simp [goneF, h0], by simp [goneD, h0]⟩
      have h0' : ¬ fuse ≤ 0 := by omega
      go_enter Tryd.func63, Tryd.ntmps63
      go_wp2_with fail
      go_ret
      rw [hE.out.1, hE.out.2]
      exact ⟨rfl, (HD.out.setFuse (fuse - 1)).setDown _, Keep.trans (S := fun x => x = d) (keep_setCell w ⟨d, 4, none⟩ _) (keep_setCell _ ⟨d, 5, none⟩ _)⟩
    · have hE : Hid (goneF fuse false = fuse ∧ goneD fuse false = false) := ⟨by simp [goneF, h0], by simp [goneD, h0]⟩
      go_enter Tryd.func63, Tryd.ntmps63
      go_wp2_with fail
      go_ret
      rw [hE.out.1, hE.out.2]
      exact ⟨rfl, HD.out, Keep.refl _ _⟩
end
end Go.Proofs.YtehacchacgfjlaaDoor
