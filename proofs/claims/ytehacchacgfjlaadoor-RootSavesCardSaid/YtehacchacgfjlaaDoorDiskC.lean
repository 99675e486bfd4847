/- A disk's stores into its flushed sectors and its pending map; slices of bytes cut in two. -/
import Derived.Test.YtehacchacgfjlaaDoorDiskB
import Derived.Test.YtehacchacgfjlaaDoorCrashLaw
import Derived.Test.YtehacchacgfjlaaDoorRdI
namespace Go.Proofs.YtehacchacgfjlaaDoor
open Go.Maps
open Go Go.RowKit
set_option linter.unusedSimpArgs false
set_option linter.unusedVariables false

section
variable {lo : Nat} {w w' : World} {d : Nat} {n : Int} {fb pb : Nat} {F P : SecL} {calls fuse : Int} {down : Bool}
theorem secOf_mput (F : SecL) (i j : Int) (v : Value) (bs : List Int) : secOf (mput F i (v, bs)) j = if j = i then bs else secOf F j := by
  unfold secOf
  by_cases h : j = i
  · subst h; rw [mget_mput_same, if_pos rfl]; rfl
  · rw [mget_mput_other _ _ h, if_neg h]
theorem Dsk.setPend (h : Dsk lo w d n fb pb F P calls fuse down) {pb' : Nat} {P' : SecL} (hp : SecMap w pb' P') (hlo : lo ≤ pb') (h1 : fb ≠ pb') (h2 : pb' ≠ d) (hap : ∀ x ∈ P', ∀ g, x.2.1.ownBlock = some g → g ≠ d) : Dsk lo (w.setCell ⟨d, 2, none⟩ (.map (some pb'))) d n fb pb' F P' calls fuse down := by
  have k := keep_setCell w ⟨d, 2, none⟩ (.map (some pb'))
  refine ⟨?_, ?_, World.cell?_setCell_same' w _ _ (by rw [h.c2]; rfl), ?_, ?_, ?_, fun o => (frozen_setCell).trans (h.free o), h.fl.keep k h.ne.2.1 fun x hx g hg => h.ap x (.inl hx) g hg, hp.keep k h2 fun x hx g hg => hap x hx g hg, ⟨h.lo_.1, h.lo_.2.1, hlo⟩, ⟨h1, h.ne.2.1, h2⟩, fun x hx g hg => hx.elim (fun hx => h.ap x (.inl hx) g hg) (fun hx => hap x hx g hg), h.nb.set (by intro x e; cases e)⟩
  · rw [cell_setCell_other (by decide)]; exact h.c0
  · rw [cell_setCell_other (by decide)]; exact h.c1
  · rw [cell_setCell_other (by decide)]; exact h.c3
  · rw [cell_setCell_other (by decide)]; exact h.c4
  · rw [cell_setCell_other (by decide)]; exact h.c5
/-- A new map of sectors. -/
theorem secMap_new (w : World) : SecMap (w.alloc (Obj.map #[] 0)) w.heap.size [] := ⟨.inr ⟨_, rfl, MapAt.made w⟩, fun x hx => by cases hx⟩
/-- Nothing is pending, the power is back. -/
theorem Dsk.reset (h : Dsk lo w d n fb pb F P calls fuse down) (hlo : lo ≤ w.heap.size) :
    Dsk lo ((((w.setCell ⟨d, 2, none⟩ (.map (some w.heap.size))).setCell ⟨d, 5, none⟩ (.bool false)).setCell ⟨d, 4, none⟩ (.int .i64 0)).alloc (Obj.map #[] 0)) d n fb w.heap.size F [] calls 0 false ∧
    Keep (fun x => x = d ∨ x = fb) w ((((w.setCell ⟨d, 2, none⟩ (.map (some w.heap.size))).setCell ⟨d, 5, none⟩ (.bool false)).setCell ⟨d, 4, none⟩ (.int .i64 0)).alloc (Obj.map #[] 0)) := by
  have hl := h.lt
  have hf := h.fl.map.lt fb rfl
  have h1 : Dsk lo (w.alloc (Obj.map #[] 0)) d n fb pb F P calls fuse down := h.below ((Below.refl _ _).alloc (Nat.le_refl _) _)
  have h2 := ((h1.setPend (secMap_new w) hlo (by omega) (by omega) (fun x hx => by cases hx)).setDown false).setFuse 0
  have hz : ∀ (w : World) a v, (w.setCell a v).heap.size = w.heap.size := fun w a v => by simp [World.setCell]
  rw [World.setCell_alloc_past _ _ _ _ hl, World.setCell_alloc_past _ _ _ _ (by rw [hz]; exact hl), World.setCell_alloc_past _ _ _ _ (by rw [hz, hz]; exact hl)] at h2
  refine ⟨h2, ?_⟩
  have m : ∀ (w : World) o v, Keep (fun x => x = d ∨ x = fb) w (w.setCell ⟨d, o, none⟩ v) := fun w o v => (keep_setCell w ⟨d, o, none⟩ v).mono fun _ _ h => Or.inl h
  exact (((m _ _ _).trans (m _ _ _)).trans (m _ _ _)).trans (Keep.of_below ((Below.refl _ _).alloc (Nat.le_refl _) _))
/-- A store into the flushed sectors. -/
theorem Dsk.putF (h : Dsk lo w d n fb pb F P calls fuse down) (i : Int) (v : Value) (bs : List Int) (hi : (Lit.int .i64 i).wf = true) (hv : RdB w v bs) (hlen : bs.length = 128) (hvd : ∀ g, v.ownBlock = some g → g ≠ d) :
    ∃ w', (Instr.mapUpdate 119 (.map (some fb)) (.int .i64 i) v).run Tryd.prog w = .ok () w' ∧ Dsk lo w' d n fb pb (mput F i (v, bs)) P calls fuse down ∧ Keep (fun x => x = fb) w w' := by
  obtain ⟨w', h1, h2, h3⟩ := sec_store h.fl i v bs hi hv hlen (hv.ne_map hlen h.fl) (fun x hx => RdB.ne_map (h.fl.rd x hx).1 (h.fl.rd x hx).2 h.fl)
  have hnf : ¬ d = fb := fun e => h.ne.2.1 e.symm
  have hc : ∀ o u, w.cell? ⟨d, o, none⟩ = some u → w'.cell? ⟨d, o, none⟩ = some u := fun o u hu => (h3.cell (x := ⟨d, o, none⟩) h.lt hnf).trans hu
  refine ⟨w', h1, ⟨hc _ _ h.c0, hc _ _ h.c1, hc _ _ h.c2, hc _ _ h.c3, hc _ _ h.c4, hc _ _ h.c5, fun o => (h3.frozen (x := ⟨d, o, none⟩) h.lt hnf).trans (h.free o), h2, h.pe.keep h3 (fun e => h.ne.1 e.symm) (fun x hx => RdB.ne_map (h.pe.rd x hx).1 (h.pe.rd x hx).2 h.fl), h.lo_, h.ne, fun x hx g hg => ?_, h.nb.of_cell fun o => h3.cell (x := ⟨d, o, none⟩) h.lt hnf⟩, h3⟩
  rcases hx with hx | hx
  · rcases mem_mput hx with rfl | hx
    · exact hvd g hg
    · exact h.ap x (.inl hx) g hg
  · exact h.ap x (.inr hx) g hg
end
theorem addr_add (g off m : Nat) : (⟨g, off, none⟩ : Addr).add m = ⟨g, off + m, none⟩ := Addr.add_lit ..
theorem sizeB (w : World) : (Go.sizeOf 5).run Tryd.prog w = .ok 1 w := by
  obtain ⟨i0, hi, hz0, hz1, hz2⟩ := info_parts infoB
  simp [Go.sizeOf, typeInfo, hi, hz1]
/-- The first m bytes. -/
theorem RdB.upto {w : World} {v : Value} {bs : List Int} (h : RdB w v bs) {m : Nat} (hm : m ≤ bs.length) :
    ∃ a c, (∀ w0, (Instr.slice 30 v none (some (.int .i64 (m : Int))) none).run Tryd.prog w0 = .ok (.slice a m c) w0) ∧ RdB w (.slice a m c) (bs.take m) := by
  have hE : Tryd.prog.elem 30 = 5 := by kernel_rfl
  rcases h with ⟨rfl, rfl⟩ | ⟨g, off, cap, rfl, h1, h2, h3, h4⟩
  · obtain rfl : m = 0 := by simpa using hm
    refine ⟨none, 0, fun w0 => ?_, .inl ⟨rfl, rfl⟩⟩
    rw [run_slice_h w0 30 none 0 0 (by rw [hE]; exact Tryd.underlying30) .i64 (0 : Nat) (by decide) (by decide), hE, sizeB]
    simp [Result.andThen, sliced]
  · refine ⟨some ⟨g, off, none⟩, cap, fun w0 => ?_, .inr ⟨g, off, cap, by rw [List.length_take, Nat.min_eq_left hm], by rw [List.length_take]; omega, h2, h3, fun i hi => ?_⟩⟩
    · rw [run_slice_h w0 30 (some ⟨g, off, none⟩) bs.length cap (by rw [hE]; exact Tryd.underlying30) .i64 (m : Int) (by omega) (by omega), hE, sizeB]
      simp [Result.andThen, sliced, addr_add]
    · rw [List.length_take] at hi
      rw [h4 i (by omega)]
      simp [List.getD, List.getElem?_take, show i < m by omega]
/-- From byte m on. -/
theorem RdB.from {w : World} {v : Value} {bs : List Int} (h : RdB w v bs) {m : Nat} (hm : m ≤ bs.length) :
    ∃ a c, (∀ w0, (Instr.slice 30 v (some (.int .i64 (m : Int))) none none).run Tryd.prog w0 = .ok (.slice a (bs.length - m) c) w0) ∧ RdB w (.slice a (bs.length - m) c) (bs.drop m) := by
  have hE : Tryd.prog.elem 30 = 5 := by kernel_rfl
  rcases h with ⟨rfl, rfl⟩ | ⟨g, off, cap, rfl, h1, h2, h3, h4⟩
  · obtain rfl : m = 0 := by simpa using hm
    refine ⟨none, 0, fun w0 => ?_, .inl ⟨rfl, rfl⟩⟩
    rw [run_slice_l w0 30 none 0 0 (by rw [hE]; exact Tryd.underlying30) .i64 (0 : Nat) (by decide) (by decide), hE, sizeB]
    simp [Result.andThen, sliced]
  · by_cases hc : cap = m
    · refine ⟨some ⟨g, off, none⟩, 0, fun w0 => ?_, .inr ⟨g, off, 0, by rw [List.length_drop], by rw [List.length_drop]; omega, by unfold maxLen; omega, h3, fun i hi => ?_⟩⟩
      · rw [run_slice_l w0 30 (some ⟨g, off, none⟩) bs.length cap (by rw [hE]; exact Tryd.underlying30) .i64 (m : Int) (by omega) (by omega), hE, sizeB]
        simp [Result.andThen, sliced, hc]
      · rw [List.length_drop] at hi; omega
    · refine ⟨some ⟨g, off + m, none⟩, cap - m, fun w0 => ?_, .inr ⟨g, off + m, cap - m, by rw [List.length_drop], by rw [List.length_drop]; omega, by omega, h3, fun i hi => ?_⟩⟩
      · rw [run_slice_l w0 30 (some ⟨g, off, none⟩) bs.length cap (by rw [hE]; exact Tryd.underlying30) .i64 (m : Int) (by omega) (by omega), hE, sizeB]
        simp [Result.andThen, sliced, hc, addr_add]
      · rw [List.length_drop] at hi
        rw [Nat.add_assoc, h4 (m + i) (by omega)]
        simp [List.getD, List.getElem?_drop]
end Go.Proofs.YtehacchacgfjlaaDoor
