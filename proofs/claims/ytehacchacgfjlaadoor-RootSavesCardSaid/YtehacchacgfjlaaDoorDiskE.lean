/- (*disk.Disk).Clone: a copy has what is flushed and what is pending, and goes its own way. -/
import Derived.Test.YtehacchacgfjlaaDoorDiskD
import Derived.Test.YtehacchacgfjlaaDoorCloneM
import Derived.Deep.RegionHeld3
namespace Go.Proofs.YtehacchacgfjlaaDoor
open Go.Maps Go.Shelf
open Go Go.RowKit
set_option linter.unusedSimpArgs false
set_option linter.unusedVariables false

/-- maps.Clone of sectors. -/
theorem cloneMap_calls {w : World} {r : Nat} {m : SecL} (h : SecMap w r m) :
    Calls Tryd.prog 73 #[.map (some r)] w fun e w' => e = .returned (.map (some w.heap.size)) ∧ SecMap w' w.heap.size m ∧ w'.heap.size = w.heap.size + 1 ∧ Below w.heap.size w w' := by
  obtain ⟨b, hb, es, clk, hes, hR⟩ : ∃ b, some r = some b ∧ MapAt Tryd.prog 3 i64V secV w b m := by
    rcases h.map with ⟨h, _⟩ | h
    · cases h
    · exact h
  cases hb
  refine (AnyW.maps_Clone Tryd.cloneMB r es clk w hes).mono ?_
  rintro e w1 ⟨rfl, rfl⟩
  have hb1 : Below w.heap.size w (w.alloc (.map es clk)) := (Below.refl _ _).alloc (Nat.le_refl _) _
  exact ⟨rfl, ⟨.inr ⟨_, rfl, es, clk, heap_alloc_new w _, hR⟩, fun x hx => ⟨(h.rd x hx).1.below hb1, (h.rd x hx).2⟩⟩, by simp, hb1⟩
theorem cell_new (w : World) (cs : Array Value) (t : TypeId) (o : Nat) : (w.alloc (.cells cs t)).cell? ⟨w.heap.size, o, none⟩ = cs[o]? := by
  simp only [World.cell?, heap_alloc_new]
  rfl
theorem frozen_new (w : World) (cs : Array Value) (t : TypeId) (o : Nat) : (w.alloc (.cells cs t)).frozen? ⟨w.heap.size, o, none⟩ = false := by
  simp only [World.frozen?, heap_alloc_new]
  simp
section
variable {lo : Nat} {w w' : World} {d : Nat} {n : Int} {fb pb : Nat} {F P : SecL} {calls fuse : Int} {down : Bool}
set_option maxHeartbeats 2000000 in
set_option maxRecDepth 100000 in
theorem diskClone_calls (h : Dsk lo w d n fb pb F P calls fuse down) :
    Calls Tryd.prog 29 #[.pointer (some ⟨d, 0, none⟩)] w fun e w' => e = .returned (.pointer (some ⟨w.heap.size, 0, none⟩)) ∧ Dsk w.heap.size w' w.heap.size n (w.heap.size + 1) (w.heap.size + 2) F P calls fuse down ∧ Below w.heap.size w w' := by
  have c0 := h.c0
  have c1 := h.c1
  have c2 := h.c2
  have c3 := h.c3
  have c4 := h.c4
  have c5 := h.c5
  have hl := h.lt
  have HD := Lib.hid h
  clear h
  go_enter Tryd.func29, Tryd.ntmps29
  go_wp2_with fail
  obtain ⟨wx, hwx⟩ : ∃ wx, wx = w.alloc (Obj.cells #[Value.int IntKind.i64 n, Value.map (some fb), Value.map (some pb), Value.int IntKind.i64 calls, Value.int IntKind.i64 fuse, Value.bool down] 121) := ⟨_, rfl⟩
  have hbx : Below w.heap.size w wx := by rw [hwx]; exact (Below.refl _ _).alloc (Nat.le_refl _) _
  have hx : ∀ o, wx.cell? ⟨w.heap.size, o, none⟩ = (#[Value.int IntKind.i64 n, Value.map (some fb), Value.map (some pb), Value.int IntKind.i64 calls, Value.int IntKind.i64 fuse, Value.bool down] : Array Value)[o]? := fun o => by
    rw [hwx]; exact cell_new w _ _ o
  have hxf : ∀ o, wx.frozen? ⟨w.heap.size, o, none⟩ = false := fun o => by
    rw [hwx]; exact frozen_new w _ _ o
  have hxs : wx.heap.size = w.heap.size + 1 := by rw [hwx]; simp
  have hnb : NoByte wx w.heap.size := by
    rw [hwx]; exact NoByte.new _ _ _ (by intro u hu x e; subst e; simp at hu)
  rw [← hwx]
  have HX := Lib.hid hx
  have HXF := Lib.hid hxf
  have HXS := Lib.hid hxs
  have HNB := Lib.hid hnb
  have HBX : Hid (Below w.heap.size w wx.drew) := Below.drew hbx
  have HDX := Lib.hid (HD.out.below HBX.out)
  have HK0 : wx.drew.cell? ⟨d, 1, none⟩ = some (.map (some fb)) ∧ wx.drew.cell? ⟨d, 2, none⟩ = some (.map (some pb)) ∧ d < wx.drew.heap.size := ⟨HDX.out.c1, HDX.out.c2, HDX.out.lt⟩
  clear hwx hx hxf hxs hbx hnb c0 c1 c2 c3 c4 c5
  go_region_held3 (fun wq => wq.cell? ⟨d, 1, none⟩ = some (.map (some fb)) ∧ wq.cell? ⟨d, 2, none⟩ = some (.map (some pb)) ∧ d < wq.heap.size)
    (first | exact HK2 | exact HK1 | exact HK0 | exact HS1.out _ | exact HS2.out _ _)
    (first
      | (go_at_call_of 73 (Value.map (some fb)); refine (cloneMap_calls HDX.out.fl).mono ?_; rintro e w1 ⟨rfl, hm1, hz1', hb1⟩; have HZ1 := Lib.hid hz1'; clear hz1'; have HD1 := Lib.hid (HDX.out.below hb1); have HM1 := Lib.hid hm1; have HB1 := Lib.hid hb1; have HK1 : w1.cell? ⟨d, 1, none⟩ = some (.map (some fb)) ∧ w1.cell? ⟨d, 2, none⟩ = some (.map (some pb)) ∧ d < w1.heap.size := ⟨HD1.out.c1, HD1.out.c2, HD1.out.lt⟩; clear hm1 hb1)
      | (go_at_call_of 73 (Value.map (some pb)); refine (cloneMap_calls HD1.out.pe).mono ?_; rintro e w2 ⟨rfl, hm2, hz2', hb2⟩; clear hz2'; have HD2 := Lib.hid (HD1.out.below hb2); have HM2 := Lib.hid hm2; have HB2 := Lib.hid hb2; have HK2 : w2.cell? ⟨d, 1, none⟩ = some (.map (some fb)) ∧ w2.cell? ⟨d, 2, none⟩ = some (.map (some pb)) ∧ d < w2.heap.size := ⟨HD2.out.c1, HD2.out.c2, HD2.out.lt⟩; have hz1 : w.heap.size < w1.heap.size := (by have h1 := HB1.out.size; have h2 := HXS.out; have h3 : wx.drew.heap.size = wx.heap.size := rfl; omega); have hz2 : w.heap.size < wx.drew.heap.size := (by have h2 := HXS.out; have h3 : wx.drew.heap.size = wx.heap.size := rfl; omega); have hxc : ∀ o, w2.cell? ⟨w.heap.size, o, none⟩ = (#[Value.int IntKind.i64 n, Value.map (some fb), Value.map (some pb), Value.int IntKind.i64 calls, Value.int IntKind.i64 fuse, Value.bool down] : Array Value)[o]? := (fun o => (hb2.cell (p := ⟨w.heap.size, o, none⟩) hz1).trans ((HB1.out.cell (p := ⟨w.heap.size, o, none⟩) hz2).trans (HX.out o))); have hxf : ∀ o, w2.frozen? ⟨w.heap.size, o, none⟩ = false := (fun o => (hb2.frozen (p := ⟨w.heap.size, o, none⟩) hz1).trans ((HB1.out.frozen (p := ⟨w.heap.size, o, none⟩) hz2).trans (HXF.out o))); have e1 : w2.cell? ⟨w.heap.size, 1, none⟩ = some (.map (some fb)) := hxc 1; have e2 : w2.cell? ⟨w.heap.size, 2, none⟩ = some (.map (some pb)) := hxc 2; have f1 := hxf 1; have f2 := hxf 2; have hz3 : w.heap.size < w2.heap.size := (by have := hb2.size; omega); have hnd : ¬ d = w.heap.size := (by omega); have HS1 : Hid (∀ v1, (w2.setCell ⟨w.heap.size, 1, none⟩ v1).cell? ⟨d, 1, none⟩ = some (.map (some fb)) ∧ (w2.setCell ⟨w.heap.size, 1, none⟩ v1).cell? ⟨d, 2, none⟩ = some (.map (some pb)) ∧ d < (w2.setCell ⟨w.heap.size, 1, none⟩ v1).heap.size) := (fun v1 => ⟨((keep_setCell w2 ⟨w.heap.size, 1, none⟩ v1).cell (x := ⟨d, 1, none⟩) HK2.2.2 hnd).trans HK2.1, ((keep_setCell w2 ⟨w.heap.size, 1, none⟩ v1).cell (x := ⟨d, 2, none⟩) HK2.2.2 hnd).trans HK2.2.1, Nat.lt_of_lt_of_le HK2.2.2 (keep_setCell w2 ⟨w.heap.size, 1, none⟩ v1).size⟩); have HS2 : Hid (∀ v1 v2, ((w2.setCell ⟨w.heap.size, 1, none⟩ v1).setCell ⟨w.heap.size, 2, none⟩ v2).cell? ⟨d, 1, none⟩ = some (.map (some fb)) ∧ ((w2.setCell ⟨w.heap.size, 1, none⟩ v1).setCell ⟨w.heap.size, 2, none⟩ v2).cell? ⟨d, 2, none⟩ = some (.map (some pb)) ∧ d < ((w2.setCell ⟨w.heap.size, 1, none⟩ v1).setCell ⟨w.heap.size, 2, none⟩ v2).heap.size) := (fun v1 v2 => ⟨((keep_setCell _ ⟨w.heap.size, 2, none⟩ v2).cell (x := ⟨d, 1, none⟩) (HS1.out v1).2.2 hnd).trans (HS1.out v1).1, ((keep_setCell _ ⟨w.heap.size, 2, none⟩ v2).cell (x := ⟨d, 2, none⟩) (HS1.out v1).2.2 hnd).trans (HS1.out v1).2.1, Nat.lt_of_lt_of_le (HS1.out v1).2.2 (keep_setCell _ ⟨w.heap.size, 2, none⟩ v2).size⟩); have HXC := Lib.hid hxc; have HXG := Lib.hid hxf; clear hxc hxf hm2 hb2))
  all_goals
    go_wp2_with fail
    go_ret
    have hs0 : wx.heap.size = w.heap.size + 1 := HXS.out
    have hs1 : w1.heap.size = w.heap.size + 2 := by have h1 := HZ1.out; have h3 : wx.drew.heap.size = wx.heap.size := rfl; omega
    rw [hs0, hs1]
    have hv : ∀ x, x ∈ F ∨ x ∈ P → ∀ g, x.2.1.ownBlock = some g → g < w.heap.size := fun x hx g hg => by
      rcases hx with hx | hx
      · exact (HD.out.fl.rd x hx).1.blk g hg
      · exact (HD.out.pe.rd x hx).1.blk g hg
    have hm1 : SecMap w2 (w.heap.size + 1) F := by have := HM1.out.below HB2.out; rwa [show wx.drew.heap.size = w.heap.size + 1 from hs0] at this
    have hm2 : SecMap w2 (w.heap.size + 2) P := by have := HM2.out; rwa [hs1] at this
    have k1 := keep_setCell w2 ⟨w.heap.size, 1, none⟩ (.map (some (w.heap.size + 1)))
    have k2 := keep_setCell (w2.setCell ⟨w.heap.size, 1, none⟩ (.map (some (w.heap.size + 1)))) ⟨w.heap.size, 2, none⟩ (.map (some (w.heap.size + 2)))
    have k12 := k1.trans k2
    refine ⟨rfl, ⟨?_, ?_, ?_, ?_, ?_, ?_, fun o => ?_, hm1.keep k12 (fun e => by simp only at e; omega) (fun x hx g hg e => by simp only at e; have := hv x (.inl hx) g hg; omega), hm2.keep k12 (fun e => by simp only at e; omega) (fun x hx g hg e => by simp only at e; have := hv x (.inr hx) g hg; omega), ⟨by omega, by omega, by omega⟩, ⟨by omega, by omega, by omega⟩, fun x hx g hg e => by have := hv x hx g hg; omega, ?_⟩, ?_⟩
    · rw [cell_setCell_other (by decide), cell_setCell_other (by decide)]; exact HXC.out 0
    · rw [cell_setCell_other (by decide)]; exact World.cell?_setCell_same' w2 _ _ (by rw [e1]; rfl)
    · exact World.cell?_setCell_same' _ _ _ (by rw [cell_setCell_other (by decide), e2]; rfl)
    · rw [cell_setCell_other (by decide), cell_setCell_other (by decide)]; exact HXC.out 3
    · rw [cell_setCell_other (by decide), cell_setCell_other (by decide)]; exact HXC.out 4
    · rw [cell_setCell_other (by decide), cell_setCell_other (by decide)]; exact HXC.out 5
    · rw [frozen_setCell, frozen_setCell]; exact HXG.out o
    · refine (NoByte.set (NoByte.of_cell HNB.out fun o => ?_) (by intro x e; cases e)).set (by intro x e; cases e)
      exact (HXC.out o).trans (HX.out o).symm
    · have b1 : Below w.heap.size w w2 := (HBX.out.trans (HB1.out.mono HBX.out.size)).trans (HB2.out.mono (by omega))
      exact b1.trans (k12.below b1.size (fun z hz e => by simp only at e; omega))
end
section
variable {lo : Nat} {w w' : World} {d fb pb n : Nat} {f : Int → List Int} {P : PenL} {calls fuse : Int} {down : Bool}
theorem SecMap.noByte {r : Nat} {m : SecL} (h : SecMap w r m) : NoByte w r := fun o x e => cell_ne_map e h rfl
theorem DA.noByte (h : DA lo w d fb pb n f P calls fuse down) : NoByte w d ∧ NoByte w fb ∧ NoByte w pb := by
  obtain ⟨F, P0, hD, _⟩ := h
  exact ⟨hD.nb, hD.fl.noByte, hD.pe.noByte⟩
/-- Another disk stays as it is. -/
theorem DA.apart {lo2 d2 fb2 pb2 n2 : Nat} {f2 : Int → List Int} {P2 : PenL} {calls2 fuse2 : Int} {down2 : Bool} {S : Nat → Prop} (h : DA lo w d fb pb n f P calls fuse down) (h2 : DA lo2 w d2 fb2 pb2 n2 f2 P2 calls2 fuse2 down2)
    (k : Keep S w w') (hs : ∀ x, S x → x = d2 ∨ x = fb2 ∨ x = pb2) (hd : d ≠ d2 ∧ d ≠ fb2 ∧ d ≠ pb2) (hf : fb ≠ d2 ∧ fb ≠ fb2 ∧ fb ≠ pb2) (hp : pb ≠ d2 ∧ pb ≠ fb2 ∧ pb ≠ pb2) : DA lo w' d fb pb n f P calls fuse down := by
  refine h.keep k (fun e => ?_) (fun e => ?_) (fun e => ?_) (fun b hb _ => ?_)
  · rcases hs _ e with h | h | h
    · exact hd.1 h
    · exact hd.2.1 h
    · exact hd.2.2 h
  · rcases hs _ e with h | h | h
    · exact hf.1 h
    · exact hf.2.1 h
    · exact hf.2.2 h
  · rcases hs _ e with h | h | h
    · exact hp.1 h
    · exact hp.2.1 h
    · exact hp.2.2 h
  · rcases hs _ hb with h | h | h
    · rw [h]; exact h2.noByte.1
    · rw [h]; exact h2.noByte.2.1
    · rw [h]; exact h2.noByte.2.2
theorem da_clone (h : DA lo w d fb pb n f P calls fuse down) :
    Calls Tryd.prog 29 #[.pointer (some ⟨d, 0, none⟩)] w fun e w' => e = .returned (.pointer (some ⟨w.heap.size, 0, none⟩)) ∧ DA w.heap.size w' w.heap.size (w.heap.size + 1) (w.heap.size + 2) n f P calls fuse down ∧ Below w.heap.size w w' := by
  obtain ⟨F, P0, hD, h1, h2, h3⟩ := h
  refine (diskClone_calls hD).mono ?_
  rintro e w1 ⟨rfl, hc, hb⟩
  exact ⟨rfl, ⟨F, P0, hc, h1, h2, h3⟩, hb⟩
end
end Go.Proofs.YtehacchacgfjlaaDoor
