/- (*disk.Disk).Write: where it is done. -/
import Derived.Test.YtehacchacgfjlaaDoorDisk5
import Derived.Deep.RegionHeld3
namespace Go.Proofs.YtehacchacgfjlaaDoor
open Go.Maps
open Go Go.RowKit
set_option linter.unusedSimpArgs false
set_option linter.unusedVariables false

set_option maxRecDepth 100000 in
theorem sec_store {w : World} {r : Nat} {m : SecL} (h : SecMap w r m) (i : Int) (v : Value) (bs : List Int) (hi : (Lit.int .i64 i).wf = true) (hv : RdB w v bs) (hlen : bs.length = 128) (hne : ∀ g, v.ownBlock = some g → g ≠ r) (hall : ∀ x ∈ m, ∀ g, x.2.1.ownBlock = some g → g ≠ r) :
    ∃ w', (Instr.mapUpdate 119 (.map (some r)) (.int .i64 i) v).run Tryd.prog w = .ok () w' ∧ SecMap w' r (mput m i (v, bs)) ∧ Keep (fun x => x = r) w w' := by
  obtain ⟨w', h1, h2, h3, _⟩ := MapV.store (kv := i64V) (vv := secV) secKeyed secInj Tryd.underlying119 h.map (k := i) (v, bs) (secKey i hi)
  refine ⟨w', h1, ⟨h2, fun x hx => ?_⟩, h3⟩
  rcases mem_mput hx with rfl | hx
  · exact ⟨hv.keep h3 hne, hlen⟩
  · exact ⟨(h.rd x hx).1.keep h3 (hall x hx), (h.rd x hx).2⟩
/-- A slice of bytes lies in no map's block. -/
theorem RdB.ne_map {w : World} {v : Value} {bs : List Int} {r : Nat} {m : SecL} (h : RdB w v bs) (hl : bs.length = 128) (hm : SecMap w r m) : ∀ g, v.ownBlock = some g → g ≠ r := by
  intro g hg e
  subst e
  rcases h with ⟨rfl, h0⟩ | ⟨g', off, cap, rfl, _, _, _, h4⟩
  · rw [h0] at hl; cases hl
  · simp only [Value.ownBlock, Option.some.injEq] at hg
    subst hg
    have hc := h4 0 (by omega)
    rcases hm.map with ⟨h, _⟩ | ⟨b', h, hh⟩
    · cases h
    · cases h
      obtain ⟨es, clk, hb, _⟩ := hh
      simp [World.cell?, hb] at hc
section
variable {lo : Nat} {w w' : World} {d : Nat} {n : Int} {fb pb : Nat} {F P : SecL} {calls fuse : Int} {down : Bool}
set_option maxHeartbeats 2000000 in
set_option maxRecDepth 100000 in
theorem write_ok (h : Dsk lo w d n fb pb F P calls fuse down) (hfu : fuse ≤ 4611686018427387904) (hG : goneD fuse down = false) (i : Int) (h0 : 0 ≤ i) (hn : i < n) (hn2 : n ≤ 8192) (hcb : 0 ≤ calls ∧ calls ≤ 1000000) {v : Value} {bs : List Int} (hv : RdB w v bs) (hlen : bs.length = 128) (hvd : ∀ g, v.ownBlock = some g → g ≠ d) :
    Calls Tryd.prog 18 #[.pointer (some ⟨d, 0, none⟩), .int .i64 i, v] w fun e w' => e = .returned .nilIface ∧ ∃ v', Dsk lo w' d n fb pb F (mput P i (v', bs)) (calls + 1) (goneF fuse down) false ∧ (∀ g, v'.ownBlock = some g → w.heap.size ≤ g) ∧ Keep (fun x => x = d ∨ x = pb) w w' := by
  have hi : (Lit.int .i64 i).wf = true := i64wf (by omega) (by omega)
  obtain ⟨ad, cp, rfl, _, _⟩ := hv.len
  rw [hlen]
  have HL := Lib.hid hlen
  have HI := Lib.hid hi
  have HD := Lib.hid h
  have HV := Lib.hid hv
  have HG := Lib.hid hG
  clear h hv hi hlen hG
  go_enter Tryd.func18, Tryd.ntmps18
  go_wp2_with fail
  refine (gone_calls HD.out hfu).mono ?_
  rintro e w1 ⟨rfl, hD1, hk1⟩
  rw [HG.out] at hD1 ⊢
  obtain ⟨fu, hfu'⟩ : ∃ fu, fu = goneF fuse down := ⟨_, rfl⟩
  rw [← hfu'] at hD1
  have HFU := Lib.hid hfu'
  clear hfu'
  have hV1 := HV.out.keep hk1 (fun g hg e => hvd g hg e)
  have HVd : Hid (RdB w1.drew (.slice ad 128 cp) bs) := by have := hV1.below (show Below w1.heap.size w1 w1.drew from (Below.refl _ _).drew); rw [HL.out] at this; exact this
  have hDd : Dsk lo w1.drew d n fb pb F P calls fu false := hD1.below (Below.refl _ _).drew
  have HDd := Lib.hid hDd
  have k0 := hD1.c0
  have k2 := hD1.c2
  have hlt := hD1.lt
  have hnp : ¬ d = pb := fun e => hD1.ne.2.2 e.symm
  have HK0 : w1.drew.cell? ⟨d, 2, none⟩ = some (.map (some pb)) ∧ d < w1.drew.heap.size := ⟨k2, hlt⟩
  have HK1 := Lib.hid hk1
  clear hD1 hV1 hDd hk1
  go_wp2_with fail
  go_region_held3 (fun wq => wq.cell? ⟨d, 2, none⟩ = some (.map (some pb)) ∧ d < wq.heap.size)
    (first | exact HKb | exact HKa | exact HK0)
    (first
      | (go_at_call 64; refine (cloneB_calls HVd.out (by rw [HL.out]; decide)).mono ?_; rintro e w2 ⟨v2, rfl, hO, hb⟩; have HKa : w2.cell? ⟨d, 2, none⟩ = some (.map (some pb)) ∧ d < w2.heap.size := ⟨(hb.cell (p := ⟨d, 2, none⟩) hlt).trans k2, Nat.lt_of_lt_of_le hlt hb.size⟩; have HD2 := Lib.hid (HDd.out.below hb); obtain ⟨w3, hst, hm3, hk3⟩ := sec_store HD2.out.pe i v2 bs HI.out hO.rd HL.out (hO.rd.ne_map HL.out HD2.out.pe) (fun x hx => RdB.ne_map (HD2.out.pe.rd x hx).1 (HD2.out.pe.rd x hx).2 HD2.out.pe); have HKb : w3.cell? ⟨d, 2, none⟩ = some (.map (some pb)) ∧ d < w3.heap.size := ⟨(hk3.cell (x := ⟨d, 2, none⟩) HKa.2 hnp).trans HKa.1, Nat.lt_of_lt_of_le HKa.2 hk3.size⟩; have HO := Lib.hid hO; have HB := Lib.hid hb; have HM3 := Lib.hid hm3; have HK3 := Lib.hid hk3; clear hO hb hm3 hk3))
  all_goals
    have DW3 : Dsk lo w3 d n fb pb F (mput P i (v2, bs)) calls fu false := by
      have hk := HK3.out
      have h2 := HD2.out
      have hd2 : d < w2.heap.size := h2.lt
      have hc : ∀ o u, w2.cell? ⟨d, o, none⟩ = some u → w3.cell? ⟨d, o, none⟩ = some u := fun o u hu => (hk.cell (x := ⟨d, o, none⟩) hd2 hnp).trans hu
      refine ⟨hc _ _ h2.c0, hc _ _ h2.c1, hc _ _ h2.c2, hc _ _ h2.c3, hc _ _ h2.c4, hc _ _ h2.c5, fun o => (hk.frozen (x := ⟨d, o, none⟩) hd2 hnp).trans (h2.free o), h2.fl.keep hk (fun e => h2.ne.1 e) (fun x hx => RdB.ne_map (h2.fl.rd x hx).1 (h2.fl.rd x hx).2 h2.pe), HM3.out, h2.lo_, h2.ne, fun x hx g hg => ?_, h2.nb.of_cell fun o => hk.cell (x := ⟨d, o, none⟩) hd2 hnp⟩
      rcases hx with hx | hx
      · exact h2.ap x (.inl hx) g hg
      · rcases mem_mput hx with rfl | hx
        · have h5 := (World.ownsRow.lt HO.out g hg).1
          have h6 : d < w1.drew.heap.size := hlt
          omega
        · exact h2.ap x (.inr hx) g hg
    have HW3 := Lib.hid DW3
    have c3 := DW3.c3
    have f3 := DW3.free 3
    have HKw : Hid (Keep (fun x => x = d ∨ x = pb) w w3) := (HK1.out.mono fun _ _ h => .inl h).trans ((Keep.of_below ((show Below w1.heap.size w1 w1.drew from (Below.refl _ _).drew).trans HB.out)).trans (HK3.out.mono fun _ _ h => .inr h))
    clear DW3
    go_wp2_with fail
    go_ret
    rw [← HFU.out]
    exact ⟨rfl, v2, HW3.out.setCalls (calls + 1), (fun g hg => Nat.le_trans HK1.out.size (World.ownsRow.lt HO.out g hg).1), HKw.out.trans ((keep_setCell w3 ⟨d, 3, none⟩ _).mono fun _ _ h => .inl h)⟩
end
end Go.Proofs.YtehacchacgfjlaaDoor
