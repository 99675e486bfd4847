/- op.Read as a whole. (Written by gen_read.py.) -/
import Derived.Test.YtchbkceconlbkaaGreatDoorReadDef
import Derived.Deep.DeepCutAuto
namespace Go.Proofs.YtchbkceconlbkaaGreatDoor
open Go Go.RowKit
set_option linter.unusedSimpArgs false
set_option linter.unusedVariables false

theorem infoI64R : (Tryz.prog.info? 2).map (fun i => (i.zero, i.size, i.bytes)) = some (some (.int .i64 0), 1, 8) := by kernel_rfl
theorem Keep.belowR {w w' : World} {rb b : Nat} (h : Keep (fun x => x = rb) w w') (hb : b ≤ w.heap.size) (hr : b ≤ rb) : Below b w w' := h.below hb (fun j hj e => by omega)
theorem there_keep {w w' : World} {g o n rb : Nat} (h : w.there g o n) (hg : g < w.heap.size) (k : Keep (fun x => x = rb) w w') (hne : ¬ g = rb) : w'.there g o n := fun j hj =>
  ⟨by rw [k.cell (x := ⟨g, o + j, none⟩) hg hne]; exact (h j hj).1, (k.frozen (x := ⟨g, o + j, none⟩) hg hne).trans (h j hj).2⟩
theorem Rdr.keepO {p : Nat → Addr} {w w' : World} {rb : Nat} {l : List UInt8} {st : Nat × Option (Nat × Nat)} {S : Nat → Prop} (h : Rdr p w rb l st) (k : Keep S w w') (hS : ∀ g, S g → g < rb) (hrs : ∀ g, g < w.heap.size → S g → False) : Rdr p w' rb l st :=
  h.below ⟨k.os, k.tape, k.output, k.size, fun g hg => k.block g hg (hrs g hg)⟩

set_option maxHeartbeats 16000000 in
set_option maxRecDepth 100000 in
theorem read_short25 {B : Nat} {p : Nat → Addr} {w : World} (hE : Errs (List.range 21) B p w) (hT : OpW B w) {v : Value} {l : List UInt8} (hR : RdB w v (bytesI l)) (hl : l.length ≤ 256) :
    Calls Tryz.prog 15 #[v] w fun e w' => (∃ er, e = .returned (.tuple #[readO l, er]) ∧ ErrIs p w' er (readF l)) ∧ Below w.heap.size w w' := by
  have hlen : (bytesI l).length = l.length := by simp [bytesI]
  have HN := Lib.hid (fun (w' : World) (h : RdB w' v (bytesI l)) => newReader_calls (p := p) h (by omega))
  have hR0 := hR
  obtain ⟨va, vc, rfl, hvc, hvm⟩ := hR.len
  rw [hlen] at hR0 HN ⊢
  have hd : decide ((l.length : Int) > 256) = false := decide_eq_false (by omega)
  have hBw := hE.size
  have HRd0 := Lib.hid hR0
  have hRt := there_new w #[.int .i64 0, .int .i64 0, .int .i64 0, .int .i64 0, .int .i64 0, .int .i64 0, .int .i64 0, .int .i64 0] 23 8 (by decide)
  have HB : Below w.heap.size w (w.alloc (Obj.cells #[.int .i64 0, .int .i64 0, .int .i64 0, .int .i64 0, .int .i64 0, .int .i64 0, .int .i64 0, .int .i64 0] 23)) := (Below.refl _ _).alloc (Nat.le_refl _) _
  have HE := Lib.hid (hE.below (HB.mono hE.size))
  have HT := Lib.hid (hT.on HB)
  have hs : w.heap.size < (w.alloc (Obj.cells #[.int .i64 0, .int .i64 0, .int .i64 0, .int .i64 0, .int .i64 0, .int .i64 0, .int .i64 0, .int .i64 0] 23)).heap.size := by simp
  have HRt := Lib.hid hRt
  clear hE hT hR hR0 hvc hvm hRt
  go_enter Tryz.func15, Tryz.ntmps15
  go_wp2_with fail
  generalize w.alloc (Obj.cells #[.int .i64 0, .int .i64 0, .int .i64 0, .int .i64 0, .int .i64 0, .int .i64 0, .int .i64 0, .int .i64 0] 23) = W1 at *
  refine (HN.out _ (HRd0.out.below HB)).mono ?_
  rintro e w2 ⟨rb, rfl, hrb, hrd, hb⟩
  have HR2 := Lib.hid hrd
  have HRt2 := Lib.hid (World.there.below HRt.out hs hb)
  have HE2 := Lib.hid (HE.out.below (hb.mono HE.out.size))
  have HT2 := Lib.hid (HT.out.on hb)
  have HB2 := Lib.hid (bbase HB hb)
  have hs2 : w.heap.size < w2.heap.size := by have := hb.size; omega
  have hrb1 : w.heap.size < rb := by omega
  clear hrd hb HRt HE HT HB hs hrb HN HRd0 hd W1
  go_wp2_with fail
  have HO2 : Hid (OwnI 2 (rb + 1) w2 (.slice none 0 0) (readQ l 0).1) := OwnI.nil _ _ _
  have HNe2 : Hid (∀ eb, w2.cell? ⟨rb, 2, none⟩ = some (atV eb) → w.heap.size < eb ∧ ∀ g, (Value.slice none 0 0).ownBlock = some g → g ≠ eb) := fun eb h => by
    rcases HR2.out.c2 with ⟨_, h2⟩ | ⟨c, q, eb', h2, _⟩
    · rw [h2] at h; cases h
    · cases h2
  have HR2 : Hid (Rdr p w2 rb l (readQ l 0).2) := HR2
  go_loopw [15, 5] (fun i u wr => ∃ q : Nat, q ≤ 8 ∧ i = .int .i64 q ∧ Hid (OwnI 2 (rb + 1) wr u (readQ l q).1) ∧ Hid (Rdr p wr rb l (readQ l q).2) ∧ Hid (wr.there w.heap.size 0 8) ∧ Hid (Errs (List.range 21) B p wr) ∧ Hid (OpW B wr) ∧ Hid (Below w.heap.size w wr) ∧ Hid (∀ eb, wr.cell? ⟨rb, 2, none⟩ = some (atV eb) → w.heap.size < eb ∧ ∀ g, u.ownBlock = some g → g ≠ eb)) (fun i _ _ => 8 - (intOf i).toNat)
  case atStart => exact ⟨0, by omega, rfl, HO2, HR2, HRt2, HE2, HT2, HB2, HNe2⟩
  case round =>
    obtain ⟨q, hq, rfl, hO, hRd, hRt, hE, hT, hB, hNe⟩ := hrel
    clear HO2 HR2 HRt2 HE2 HT2 HB2 hs2 HNe2
    have hrlt := hRd.out.lt
    by_cases hq8 : q < 8
    · have HSn := Lib.hid (readQ_snd l q)
      have HSf := Lib.hid (readQ_fst l q)
      have HNum := Lib.hid (rdNum_calls hE.out hRd.out (readQ_ok l q) (by omega) 0 4611686018427387904)
      have HLx : Hid ((readQ l q).1.length ≤ 1000000) := by rw [Hid, readQ_length]; omega
      generalize (numStep l 0 4611686018427387904 (readQ l q).2).1 = z at HNum HSf
      generalize (numStep l 0 4611686018427387904 (readQ l q).2).2 = st' at HNum HSn
      go_wp2_with fail
      refine HNum.out.mono ?_
      rintro e w3 ⟨rfl, hrd3, hk3, hq3⟩
      have hs3 := hk3.size
      have HNe3 : Hid (∀ eb, w3.cell? ⟨rb, 2, none⟩ = some (atV eb) → w.heap.size < eb ∧ ∀ g, u5.ownBlock = some g → g ≠ eb) := fun eb h => by
        rcases hq3 eb h with h1 | h1
        · exact hNe.out eb h1
        · exact ⟨by omega, fun g hg => by have := (hO.out.block g hg).2; omega⟩
      have HO3 := Lib.hid (hO.out.kept hk3 (fun g hg e => by have := (hO.out.block g hg).1; omega))
      have HRt3 := Lib.hid (there_keep hRt.out (show w.heap.size < wr.heap.size by omega) hk3 (by omega))
      have hb3 : Below w.heap.size wr w3 := hk3.belowR (by omega) (by omega)
      have HE3 := Lib.hid (hE.out.below (hb3.mono hBw))
      have HT3 := Lib.hid (hT.out.below (hb3.mono hBw))
      have HB3 := Lib.hid (hB.out.trans hb3)
      have HRd3 := Lib.hid hrd3
      clear hrd3 hk3 hb3 hO hRd hRt hE hT hB HNum hNe hq3
      have hal : Below w3.heap.size w3 (w3.alloc (Obj.cells #[.int .i64 z] 2)) := (Below.refl _ _).alloc (Nat.le_refl _) _
      have hcz : (w3.alloc (Obj.cells #[.int .i64 z] 2)).cell? ⟨w3.heap.size, 0, none⟩ = some (.int .i64 z) := by go_simp
      have hbs : rb + 1 ≤ (w3.alloc (Obj.cells #[.int .i64 z] 2)).heap.size := by simp; omega
      have HO4 := Lib.hid (HO3.out.below hal)
      have HRt4 := Lib.hid (World.there.below HRt3.out (show w.heap.size < w3.heap.size by omega) hal)
      have HE4 := Lib.hid (HE3.out.below (hal.mono HE3.out.size))
      have HT4 := Lib.hid (HT3.out.on hal)
      have HB4 := Lib.hid (bbase HB3.out hal)
      have HRd4 := Lib.hid (HRd3.out.below hal)
      have Hcz := Lib.hid hcz
      have Hbs := Lib.hid hbs
      have hal2 := hal
      clear hal hcz hbs HO3 HRt3 HE3 HT3 HB3 HRd3
      go_wp2_with (at_builtin; refine wpList_app1b rfl _ _ 53 rfl 2 Tryz.underlying53 infoI64R (rb + 1) _ _ rfl HO4.out w3.heap.size 1 z rfl Hcz.out HLx.out Hbs.out ?_)
      intro v' w5 ho5 hk5 hv5
      have hblk := HO4.out.block
      have HO6 : Hid (OwnI 2 (rb + 1) w5 v' (readQ l (q + 1)).1) := by rw [HSf.out]; exact ho5
      have hb5 : Below (rb + 1) (w3.alloc (Obj.cells #[.int .i64 z] 2)) w5 := hk5.below Hbs.out (fun j hj h => by have := (hblk _ h).1; omega)
      have HRt6 : Hid (w5.there w.heap.size 0 8) := fun j hj => ⟨by rw [hb5.cell (p := ⟨w.heap.size, 0 + j, none⟩) (show w.heap.size < rb + 1 by omega)]; exact (HRt4.out j hj).1, (hb5.frozen (p := ⟨w.heap.size, 0 + j, none⟩) (show w.heap.size < rb + 1 by omega)).trans (HRt4.out j hj).2⟩
      have hb6 : Below w.heap.size (w3.alloc (Obj.cells #[.int .i64 z] 2)) w5 := hb5.mono (by omega)
      have HE6 := Lib.hid (HE4.out.below (hb6.mono hBw))
      have HT6 := Lib.hid (HT4.out.below (hb6.mono hBw))
      have HB6 := Lib.hid (HB4.out.trans hb6)
      have HRd6 : Hid (Rdr p w5 rb l (readQ l (q + 1)).2) := by
        rw [HSn.out]
        refine HRd4.out.keepG hk5 (fun g hg => by have := (hblk g hg).1; omega) (fun eb heb hg => ?_)
        have hcc := (hal2.cell (p := ⟨rb, 2, none⟩) (show rb < w3.heap.size by omega)).symm.trans heb
        exact (HNe3.out eb hcc).2 eb hg rfl
      have HNe6 : Hid (∀ eb, w5.cell? ⟨rb, 2, none⟩ = some (atV eb) → w.heap.size < eb ∧ ∀ g, v'.ownBlock = some g → g ≠ eb) := fun eb h => by
        have h4 := (hb5.cell (p := ⟨rb, 2, none⟩) (show rb < rb + 1 by omega)).symm.trans h
        have h3 := (hal2.cell (p := ⟨rb, 2, none⟩) (show rb < w3.heap.size by omega)).symm.trans h4
        refine ⟨(HNe3.out eb h3).1, fun g hg => ?_⟩
        rcases hv5 with e | e
        · exact (HNe3.out eb h3).2 g (by rw [← e]; exact hg)
        · rw [e] at hg
          simp only [Option.some.injEq] at hg
          rcases HRd4.out.c2 with ⟨_, h2⟩ | ⟨c, q', eb', _, _, _, h2, hA, _⟩
          · rw [h2] at h4; cases h4
          · rw [h2] at h4
            simp only [Option.some.injEq, Value.iface.injEq, Value.pointer.injEq, Addr.mk.injEq, true_and, and_true] at h4
            have h6 := hA.lt
            simp at h6
            rw [← hg, ← h4]
            omega
      clear ho5 hk5 hv5 hblk hb5 hb6 hal2 HNe3 HO4 HRt4 HE4 HT4 HB4 HRd4
      go_wp2_with fail
      go_roundw
      case rel => exact ⟨q + 1, by omega, by go_num, HO6, HRd6, HRt6, HE6, HT6, HB6, HNe6⟩
      case measure => simp [intOf]; omega
    · obtain rfl : q = 8 := by omega
      have hst : (readQ l 8).2.1 ≤ l.length := readQ_ok l 8
      have hlt := hRd.out.lt
      cases herr : (readQ l 8).2.2 with
      | some cq =>
        obtain ⟨c, pq⟩ := cq
        have hF := readF_err hl herr
        obtain ⟨ev', hc2, h3⟩ := err_cell hRd.out
        rcases h3 with ⟨h, _⟩ | ⟨c', q', eb, h, hca, hcb, rfl, hA⟩
        · rw [herr] at h; cases h
        rw [herr] at h
        obtain ⟨rfl, rfl⟩ : c = c' ∧ pq = q' := by simpa using h
        have hne := (hNe.out eb hc2).1
        have hO0 : readO l = opV 0 0 0 0 0 0 0 0 := by unfold readO; rw [hF]; exact if_neg (by show ¬ c = 0; omega)
        have HF := Lib.hid hF
        have HO0 := Lib.hid hO0
        have HA := Lib.hid hA
        have HCc := Lib.hid (And.intro hca hcb)
        clear h herr hF hst hO0 hA hca hcb hE hT hO hRd hNe
        go_wp2_with fail
        refine (rdErr_calls hc2 (.inr ⟨eb, rfl⟩) hlt).mono ?_
        rintro e _ ⟨rfl, rfl⟩
        go_wp2_with fail
        refine (rdErr_calls hc2 (.inr ⟨eb, rfl⟩) hlt).mono ?_
        rintro e _ ⟨rfl, rfl⟩
        have hs9 : w.heap.size < wr.heap.size := by omega
        go_wp2_with (refine wpList_store_mid rfl 23 _ _ rfl w.heap.size 0 #[.int .i64 0, .int .i64 0, .int .i64 0, .int .i64 0, .int .i64 0, .int .i64 0, .int .i64 0, .int .i64 0] rfl rfl hRt.out (by kernel_rfl) (by simp [Value.oneCell']) ?_)
        have hthere := hRt.out
        have hB2 : Below w.heap.size w (wr.setCells w.heap.size 0 zero8) := hB.out.trans ((keep_setCells wr w.heap.size _ 0).below (by omega) (fun j hj e => by omega))
        have hc : (wr.setCells w.heap.size 0 zero8).rangeAt w.heap.size 0 zero8 := World.rangeAt_setCells_same _ _ _ _ hthere
        have hA2 : AtCells p (wr.setCells w.heap.size 0 zero8) eb pq (c - 101) := by
          have hk := keep_setCells wr w.heap.size zero8 0
          exact ⟨(hk.cell (x := ⟨eb, 0, none⟩) HA.out.lt (show ¬ eb = w.heap.size by omega)).trans HA.out.pos, (hk.cell (x := ⟨eb, 1, none⟩) HA.out.lt (show ¬ eb = w.heap.size by omega)).trans HA.out.err⟩
        generalize wr.setCells w.heap.size 0 zero8 = W2 at *
        have r0 := hc 0 _ rfl; have r1 := hc 1 _ rfl; have r2 := hc 2 _ rfl; have r3 := hc 3 _ rfl; have r4 := hc 4 _ rfl; have r5 := hc 5 _ rfl; have r6 := hc 6 _ rfl; have r7 := hc 7 _ rfl
        refine bodyPost_ret (v := .tuple #[opV 0 0 0 0 0 0 0 0, atV eb]) (by simp [results, Tryz.results15, go_sem, r0, r1, r2, r3, r4, r5, r6, r7]) rfl ⟨⟨atV eb, by rw [HO0.out], .inr (.inr ⟨c - 101, pq, eb, by have := HCc.out; omega, by rw [HF.out, show 101 + (c - 101) = c by have := HCc.out; omega], rfl, hA2⟩)⟩, hB2⟩
      | none =>
        obtain ⟨ev', hc2, h3⟩ := err_cell hRd.out
        rcases h3 with ⟨_, rfl⟩ | ⟨c', q', eb, h, _⟩
        case inr => rw [herr] at h; cases h
        have HLeft := Lib.hid (rdLeft_calls hRd.out (readQ_ok l 8) (by omega))
        go_wp2_with fail
        refine (rdErr_calls hc2 (.inl rfl) hlt).mono ?_
        rintro e _ ⟨rfl, rfl⟩
        go_wp2_with fail
        refine HLeft.out.mono ?_
        rintro e w8 ⟨rfl, hb⟩
        have HR8 := Lib.hid (hRd.out.below hb)
        have HRt8 := Lib.hid (World.there.below hRt.out (show w.heap.size < wr.heap.size by omega) hb)
        have HE8 := Lib.hid (hE.out.below (hb.mono hE.out.size))
        have HT8 := Lib.hid (hT.out.on hb)
        have HB8 := Lib.hid (bbase hB.out hb)
        have HO8 := Lib.hid (hO.out.below hb)
        have hs8 : rb < w8.heap.size := by have := hb.size; omega
        clear hb hRd hRt hE hT hB hO hNe hc2 HLeft
        by_cases hlf : (readQ l 8).2.1 < l.length
        · have hF := readF_left hl herr hlf
          have hO0 : readO l = opV 0 0 0 0 0 0 0 0 := by unfold readO; rw [hF]; rfl
          have HF := Lib.hid hF
          have HO0 := Lib.hid hO0
          have hc1 := HR8.out.c1
          have hgl0 : 3 < w.heap.size := Nat.lt_of_lt_of_le (HE8.out.lt 1 (by decide)).1 hBw
          have hg := HE8.out.cell 1 (by decide)
          change w8.cell? ⟨3, 0, none⟩ = some (.iface 146 (.pointer (some (p 1)))) at hg
          have hst2 : (readQ l 8).2 = ((readQ l 8).2.1, none) := Prod.ext rfl herr
          rw [hst2] at HR8
          generalize (readQ l 8).2.1 = at0 at *
          have hd : decide ((l.length : Int) - (at0 : Int) > 0) = true := decide_eq_true (by omega)
          have hHR8 := HR8.out
          have hB8 := HB8.out
          have hR8 := HRt8.out
          have hne : ¬ 3 = w.heap.size := by omega
          have hgl : 3 < w8.drew.heap.size := Nat.lt_of_lt_of_le hgl0 HB8.out.size
          have HAtc := Lib.hid (rdAt_calls (hHR8.below (Below.refl _ _).drew))
          clear hF hO0 herr hst hst2 HE8 HT8 HO8 HB8 HRt8
          go_wp2_with fail
          refine wp_region_held_drew (S := (fun w1 => w1.cell? ⟨3, 0, none⟩ = some (.iface 146 (.pointer (some (p 1)))))) (by kernel_rfl) hg (fun hHeld => ?_)
          refine wpAnyH_take (i := 0) (v := (.agg #[.int .i64 0, .int .i64 0, .int .i64 0, .int .i64 0, .int .i64 0, .int .i64 0, .int .i64 0, .int .i64 0])) rfl (by kernel_rfl) (by kernel_rfl) (by kernel_rfl) (fun _ _ _ h => h) (Or.inl ⟨by rfl, fun w hSw => by (go_simp)⟩) hHeld ?_
          (try simp only [Act.put, List.getElem_toArray, List.getElem_cons_succ, List.getElem_cons_zero, List.setIfInBounds_toArray, List.set_cons_zero, List.set_cons_succ])
          refine wpAnyH_take (i := 1) (v := (.pointer (some ⟨rb, 0, none⟩))) rfl (by kernel_rfl) (by kernel_rfl) (by kernel_rfl) (fun _ _ _ h => h) (Or.inl ⟨by rfl, fun w hSw => by (go_simp)⟩) hHeld ?_
          (try simp only [Act.put, List.getElem_toArray, List.getElem_cons_succ, List.getElem_cons_zero, List.setIfInBounds_toArray, List.set_cons_zero, List.set_cons_succ])
          refine wpAnyH_take (i := 3) (v := (.iface 146 (.pointer (some (p 1))))) rfl (by kernel_rfl) (by kernel_rfl) (by kernel_rfl) (fun _ _ _ h => h) (Or.inl ⟨by rfl, fun w hSw => by (have hSw2 := hSw; go_simp)⟩) hHeld ?_
          (try simp only [Act.put, List.getElem_toArray, List.getElem_cons_succ, List.getElem_cons_zero, List.setIfInBounds_toArray, List.set_cons_zero, List.set_cons_succ])
          refine wpAnyH_ready (rs := [2]) (by kernel_rfl) (by simp) ?_
          refine AllReadyH.cons rfl (fun K hK => ?_) AllReadyH.nil
          go_simp
          go_wp2_with (go_at_call 39; refine HAtc.out.mono ?_; rintro e _ ⟨rfl, rfl⟩)
          refine hK.out _ _ ?_ (fun hHeld2 => ?_)
          · exact hg
          clear hHeld hK K
          have hHeld := hHeld2
          clear hHeld2
          (try simp only [Act.put, List.getElem_toArray, List.getElem_cons_succ, List.getElem_cons_zero, List.setIfInBounds_toArray, List.set_cons_zero, List.set_cons_succ])
          refine wpAnyH_take (i := 4) (v := (.agg #[.int .i64 at0, .iface 146 (.pointer (some (p 1)))])) rfl (by kernel_rfl) (by kernel_rfl) (by kernel_rfl) (fun _ _ _ h => h) (Or.inl ⟨by rfl, fun w hSw => by (go_simp)⟩) hHeld ?_
          (try simp only [Act.put, List.getElem_toArray, List.getElem_cons_succ, List.getElem_cons_zero, List.setIfInBounds_toArray, List.set_cons_zero, List.set_cons_succ])
          refine wpAnyH_ready (rs := [5, 7]) (by kernel_rfl) (by simp) ?_
          refine AllReadyH.cons rfl (fun K hK => ?_) (AllReadyH.cons rfl (fun K hK => ?_) AllReadyH.nil)
          · go_simp
            go_wp2_with (fail)
            have hal : Below w8.heap.size w8 ((w8.alloc (Obj.cells #[.int .i64 at0, .iface 146 (.pointer (some (p 1)))] 70)).drew) := ((Below.refl _ _).alloc (Nat.le_refl _) _).drew
            have hA9 : AtCells p ((w8.alloc (Obj.cells #[.int .i64 at0, .iface 146 (.pointer (some (p 1)))] 70)).drew) w8.heap.size at0 1 := ⟨cell_new w8 #[.int .i64 at0, .iface 146 (.pointer (some (p 1)))] _ 0, cell_new w8 #[.int .i64 at0, .iface 146 (.pointer (some (p 1)))] _ 1⟩
            have hR9 := World.there.below hR8 (show w.heap.size < w8.heap.size by omega) hal
            have hB9 := bbase hB8 hal
            have hg9 := (hal.cell (p := ⟨3, 0, none⟩) hgl).trans hg
            have hs9 := hal.size
            have hgl9 := Nat.lt_of_lt_of_le hgl hs9
            generalize (w8.alloc (Obj.cells #[.int .i64 at0, .iface 146 (.pointer (some (p 1)))] 70)).drew = W9 at *
            have hneb : ¬ w8.heap.size = w.heap.size := by omega
            refine hK.out _ _ hg9 (fun hHeld2 => ?_)
            clear hHeld hK K hal
            have hHeld := hHeld2
            clear hHeld2
            generalize w8.heap.size = eb at *
            (try simp only [Act.put, List.getElem_toArray, List.getElem_cons_succ, List.getElem_cons_zero, List.setIfInBounds_toArray, List.set_cons_zero, List.set_cons_succ])
            refine wpAnyH_take (i := 6) (v := (atV eb)) rfl (by kernel_rfl) (by kernel_rfl) (by kernel_rfl) (fun _ _ _ h => h) (Or.inl ⟨by rfl, fun w hSw => by (go_simp)⟩) hHeld ?_
            (try simp only [Act.put, List.getElem_toArray, List.getElem_cons_succ, List.getElem_cons_zero, List.setIfInBounds_toArray, List.set_cons_zero, List.set_cons_succ])
            refine wpAnyH_ready (rs := [7]) (by kernel_rfl) (by simp) ?_
            refine AllReadyH.cons rfl (fun K hK => ?_) AllReadyH.nil
            rw [if_pos (by kernel_rfl)]
            refine wp_store_mid 23 _ _ rfl w.heap.size 0 #[.int .i64 0, .int .i64 0, .int .i64 0, .int .i64 0, .int .i64 0, .int .i64 0, .int .i64 0, .int .i64 0] rfl rfl hR9 (by kernel_rfl) (by simp [Value.oneCell']) ?_
            have hk10 := keep_setCells W9 w.heap.size zero8 0
            have hc : (W9.setCells w.heap.size 0 zero8).rangeAt w.heap.size 0 zero8 := World.rangeAt_setCells_same _ _ _ _ hR9
            have hA10 : AtCells p (W9.setCells w.heap.size 0 zero8) eb at0 1 := ⟨(hk10.cell (x := ⟨eb, 0, none⟩) hA9.lt hneb).trans hA9.pos, (hk10.cell (x := ⟨eb, 1, none⟩) hA9.lt hneb).trans hA9.err⟩
            have hB10 : Below w.heap.size w (W9.setCells w.heap.size 0 zero8) := hB9.trans (hk10.below (by omega) (fun j hj e => by omega))
            have hg10 := (hk10.cell (x := ⟨3, 0, none⟩) hgl9 hne).trans hg9
            refine hK.out _ _ hg10 (fun hHeld2 => ?_)
            clear hHeld hK K hk10
            have hHeld := hHeld2
            clear hHeld2
            dsimp only [Array.toList] at *
            generalize W9.setCells w.heap.size 0 zero8 = W10 at *
            (try simp only [Act.put, List.getElem_toArray, List.getElem_cons_succ, List.getElem_cons_zero, List.setIfInBounds_toArray, List.set_cons_zero, List.set_cons_succ])
            refine wpAnyH_take (i := 8) (v := (atV eb)) rfl (by kernel_rfl) (by kernel_rfl) (by kernel_rfl) (fun _ _ _ h => h) (Or.inl ⟨by rfl, fun w hSw => by (go_simp)⟩) hHeld ?_
            (try simp only [Act.put, List.getElem_toArray, List.getElem_cons_succ, List.getElem_cons_zero, List.setIfInBounds_toArray, List.set_cons_zero, List.set_cons_succ])
            refine wpAnyH_done (by kernel_rfl) ?_ _
            have r0 := hc 0 _ rfl; have r1 := hc 1 _ rfl; have r2 := hc 2 _ rfl; have r3 := hc 3 _ rfl; have r4 := hc 4 _ rfl; have r5 := hc 5 _ rfl; have r6 := hc 6 _ rfl; have r7 := hc 7 _ rfl
            clear hc
            go_wp2_with fail
            refine bodyPost_ret (v := .tuple #[opV 0 0 0 0 0 0 0 0, atV eb]) (by simp [results, Tryz.results15, go_sem, r0, r1, r2, r3, r4, r5, r6, r7]) rfl ⟨⟨atV eb, by rw [HO0.out], .inr (.inr ⟨1, at0, eb, by decide, by rw [HF.out], rfl, hA10⟩)⟩, hB10⟩
          · rw [if_pos (by kernel_rfl)]
            refine wp_store_mid 23 _ _ rfl w.heap.size 0 #[.int .i64 0, .int .i64 0, .int .i64 0, .int .i64 0, .int .i64 0, .int .i64 0, .int .i64 0, .int .i64 0] rfl rfl ((World.there_drew _ _ _ _).2 hR8) (by kernel_rfl) (by simp [Value.oneCell']) ?_
            have hk9 := keep_setCells w8.drew w.heap.size zero8 0
            have hc9 : (w8.drew.setCells w.heap.size 0 zero8).rangeAt w.heap.size 0 zero8 := World.rangeAt_setCells_same _ _ _ _ ((World.there_drew _ _ _ _).2 hR8)
            have hB9 : Below w.heap.size w (w8.drew.setCells w.heap.size 0 zero8) := hB8.drew.trans (hk9.below (show w.heap.size ≤ w8.heap.size by omega) (fun j hj e => by omega))
            have hg9 := (hk9.cell (x := ⟨3, 0, none⟩) hgl hne).trans hg
            have hs9 : w8.heap.size ≤ (w8.drew.setCells w.heap.size 0 zero8).heap.size := hk9.size
            have hgl9 := Nat.lt_of_lt_of_le hgl hs9
            refine hK.out _ _ hg9 (fun hHeld2 => ?_)
            clear hHeld hK K hk9
            have hHeld := hHeld2
            clear hHeld2
            dsimp only [Array.toList] at *
            generalize w8.drew.setCells w.heap.size 0 zero8 = W9 at *
            (try simp only [Act.put, List.getElem_toArray, List.getElem_cons_succ, List.getElem_cons_zero, List.setIfInBounds_toArray, List.set_cons_zero, List.set_cons_succ])
            refine wpAnyH_ready (rs := [5]) (by kernel_rfl) (by simp) ?_
            refine AllReadyH.cons rfl (fun K hK => ?_) AllReadyH.nil
            go_simp
            go_wp2_with (fail)
            have hal : Below W9.heap.size W9 (W9.alloc (Obj.cells #[.int .i64 at0, .iface 146 (.pointer (some (p 1)))] 70)) := (Below.refl _ _).alloc (Nat.le_refl _) _
            have hA10 : AtCells p (W9.alloc (Obj.cells #[.int .i64 at0, .iface 146 (.pointer (some (p 1)))] 70)) W9.heap.size at0 1 := ⟨cell_new W9 #[.int .i64 at0, .iface 146 (.pointer (some (p 1)))] _ 0, cell_new W9 #[.int .i64 at0, .iface 146 (.pointer (some (p 1)))] _ 1⟩
            have hB10 := bbase hB9 hal
            have hc : (W9.alloc (Obj.cells #[.int .i64 at0, .iface 146 (.pointer (some (p 1)))] 70)).rangeAt w.heap.size 0 zero8 := World.rangeAt_alloc hc9 _
            have hg10 := (hal.cell (p := ⟨3, 0, none⟩) hgl9).trans hg9
            refine hK.out _ _ hg10 (fun hHeld2 => ?_)
            clear hHeld hK K hal hc9
            have hHeld := hHeld2
            clear hHeld2
            generalize W9.alloc (Obj.cells #[.int .i64 at0, .iface 146 (.pointer (some (p 1)))] 70) = W10 at *
            generalize W9.heap.size = eb at *
            (try simp only [Act.put, List.getElem_toArray, List.getElem_cons_succ, List.getElem_cons_zero, List.setIfInBounds_toArray, List.set_cons_zero, List.set_cons_succ])
            refine wpAnyH_take (i := 6) (v := (atV eb)) rfl (by kernel_rfl) (by kernel_rfl) (by kernel_rfl) (fun _ _ _ h => h) (Or.inl ⟨by rfl, fun w hSw => by (go_simp)⟩) hHeld ?_
            (try simp only [Act.put, List.getElem_toArray, List.getElem_cons_succ, List.getElem_cons_zero, List.setIfInBounds_toArray, List.set_cons_zero, List.set_cons_succ])
            refine wpAnyH_take (i := 8) (v := (atV eb)) rfl (by kernel_rfl) (by kernel_rfl) (by kernel_rfl) (fun _ _ _ h => h) (Or.inl ⟨by rfl, fun w hSw => by (go_simp)⟩) hHeld ?_
            (try simp only [Act.put, List.getElem_toArray, List.getElem_cons_succ, List.getElem_cons_zero, List.setIfInBounds_toArray, List.set_cons_zero, List.set_cons_succ])
            refine wpAnyH_done (by kernel_rfl) ?_ _
            have r0 := hc 0 _ rfl; have r1 := hc 1 _ rfl; have r2 := hc 2 _ rfl; have r3 := hc 3 _ rfl; have r4 := hc 4 _ rfl; have r5 := hc 5 _ rfl; have r6 := hc 6 _ rfl; have r7 := hc 7 _ rfl
            clear hc
            go_wp2_with fail
            refine bodyPost_ret (v := .tuple #[opV 0 0 0 0 0 0 0 0, atV eb]) (by simp [results, Tryz.results15, go_sem, r0, r1, r2, r3, r4, r5, r6, r7]) rfl ⟨⟨atV eb, by rw [HO0.out], .inr (.inr ⟨1, at0, eb, by decide, by rw [HF.out], rfl, hA10⟩)⟩, hB10⟩
        · have hF := readF_all hl herr hlf
          have HF := Lib.hid hF
          have hat0 : (readQ l 8).2.1 = l.length := by omega
          rw [hat0]
          have hd : decide ((l.length : Int) - (l.length : Int) > 0) = false := decide_eq_false (by omega)
          clear hF hat0 hlf hst
          have hO8 := HO8.out
          have hl8 : (readQ l 8).1.length = 8 := readQ_length l 8
          obtain ⟨lb, capl, rfl, hlb1, hlb2, hlc, hcm, hcells, _⟩ := hO8.cells (by intro h; rw [h] at hl8; simp at hl8)
          rw [hl8] at hlc hcells ⊢
          have hcl : ∀ j, j < 8 → w8.cell? ⟨lb, j, none⟩ = some (.int .i64 (readN l j)) := fun j hj => hcells j hj
          have n0 := hcl 0 (by decide)
          have n1 := hcl 1 (by decide)
          have HV := Lib.hid (show readV l = validC (readN l 0) (readN l 1) (readN l 2) (readN l 3) (readN l 4) (readN l 5) (readN l 6) (readN l 7) from rfl)
          have HRO := Lib.hid (show readO l = if (readF l).1 = 0 then opV (readN l 0) (readN l 1) (readN l 2) (readN l 3) (readN l 4) (readN l 5) (readN l 6) (readN l 7) else opV 0 0 0 0 0 0 0 0 from rfl)
          rw [HF.out] at HRO
          have HMade := Lib.hid (fun (w' : World) (hb : Below w8.heap.size w8 w') => made_calls (w := w') (readN l 0) (readN l 1) lb 2 (capl - 2) (fun j => readN l (2 + j)) (Nat.lt_of_lt_of_le hlb2 hb.size) (fun j hj => (hb.cell (p := ⟨lb, 2 + j, none⟩) hlb2).trans (hcl (2 + j) (by omega))))
          simp only [Nat.reduceAdd, Nat.add_zero] at HMade
          have HBw2 : Hid (∀ w', Below w8.heap.size w8 w' → w'.cell? ⟨lb, 0, none⟩ = some (.int .i64 (readN l 0)) ∧ w'.cell? ⟨lb, 1, none⟩ = some (.int .i64 (readN l 1))) := fun w' hb => ⟨(hb.cell (p := ⟨lb, 0, none⟩) hlb2).trans n0, (hb.cell (p := ⟨lb, 1, none⟩) hlb2).trans n1⟩
          generalize readN l 0 = y0 at *
          generalize readN l 1 = y1 at *
          generalize readN l 2 = y2 at *
          generalize readN l 3 = y3 at *
          generalize readN l 4 = y4 at *
          generalize readN l 5 = y5 at *
          generalize readN l 6 = y6 at *
          generalize readN l 7 = y7 at *
          clear hcl hcells hO8 HO8 hl8 hcm
          have hc2i : (2 : Int) ≤ (capl : Int) := by omega
          have hc2n : 2 ≤ capl := by omega
          have hc2x : ¬ capl = 2 := by omega
          have hc8 : (8 : Int) ≤ (capl : Int) := by omega
          go_upto_region 13 with fail
          go_cut [6] (fun v wx => ∃ ob, v = .pointer (some ⟨ob, 0, none⟩) ∧ Hid (OpAt wx ob y0 y1 y2 y3 y4 y5 y6 y7) ∧ Hid (Below w.heap.size w wx) ∧ Hid (wx.there w.heap.size 0 8) ∧ Hid (Errs (List.range 21) B p wx) ∧ Hid (OpW B wx) ∧ w.heap.size < ob)
          case first =>
            have hHb := And.intro n0 n1
            refine wp_region_held_drew (S := (fun w1 => w1.cell? ⟨lb, 0, none⟩ = some (.int .i64 y0) ∧ w1.cell? ⟨lb, 1, none⟩ = some (.int .i64 y1))) (by kernel_rfl) hHb (fun hHeld => ?_)
            refine wpAnyH_take (i := 0) (v := (.slice (some ⟨lb, 0, none⟩) 8 capl)) rfl (by kernel_rfl) (by kernel_rfl) (by kernel_rfl) (fun _ _ _ h => h) (Or.inl ⟨by rfl, fun w hSw => by (go_simp)⟩) hHeld ?_
            (try simp only [Act.put, List.getElem_toArray, List.getElem_cons_succ, List.getElem_cons_zero, List.setIfInBounds_toArray, List.set_cons_zero, List.set_cons_succ])
            refine wpAnyH_take (i := 1) (v := (.pointer (some ⟨lb, 0, none⟩))) rfl (by kernel_rfl) (by kernel_rfl) (by kernel_rfl) (fun _ _ _ h => h) (Or.inl ⟨by rfl, fun w hSw => by (go_simp)⟩) hHeld ?_
            (try simp only [Act.put, List.getElem_toArray, List.getElem_cons_succ, List.getElem_cons_zero, List.setIfInBounds_toArray, List.set_cons_zero, List.set_cons_succ])
            refine wpAnyH_take (i := 2) (v := (.int .i64 y0)) rfl (by kernel_rfl) (by kernel_rfl) (by kernel_rfl) (fun _ _ _ h => h) (Or.inl ⟨by rfl, fun w hSw => by (obtain ⟨s0, s1⟩ := hSw; go_simp)⟩) hHeld ?_
            (try simp only [Act.put, List.getElem_toArray, List.getElem_cons_succ, List.getElem_cons_zero, List.setIfInBounds_toArray, List.set_cons_zero, List.set_cons_succ])
            refine wpAnyH_take (i := 3) (v := (.slice (some ⟨lb, 0, none⟩) 8 capl)) rfl (by kernel_rfl) (by kernel_rfl) (by kernel_rfl) (fun _ _ _ h => h) (Or.inl ⟨by rfl, fun w hSw => by (go_simp)⟩) hHeld ?_
            (try simp only [Act.put, List.getElem_toArray, List.getElem_cons_succ, List.getElem_cons_zero, List.setIfInBounds_toArray, List.set_cons_zero, List.set_cons_succ])
            refine wpAnyH_take (i := 4) (v := (.pointer (some ⟨lb, 1, none⟩))) rfl (by kernel_rfl) (by kernel_rfl) (by kernel_rfl) (fun _ _ _ h => h) (Or.inl ⟨by rfl, fun w hSw => by (go_simp)⟩) hHeld ?_
            (try simp only [Act.put, List.getElem_toArray, List.getElem_cons_succ, List.getElem_cons_zero, List.setIfInBounds_toArray, List.set_cons_zero, List.set_cons_succ])
            refine wpAnyH_take (i := 5) (v := (.int .i64 y1)) rfl (by kernel_rfl) (by kernel_rfl) (by kernel_rfl) (fun _ _ _ h => h) (Or.inl ⟨by rfl, fun w hSw => by (obtain ⟨s0, s1⟩ := hSw; go_simp)⟩) hHeld ?_
            (try simp only [Act.put, List.getElem_toArray, List.getElem_cons_succ, List.getElem_cons_zero, List.setIfInBounds_toArray, List.set_cons_zero, List.set_cons_succ])
            refine wpAnyH_take (i := 6) (v := (.slice (some ⟨lb, 0, none⟩) 8 capl)) rfl (by kernel_rfl) (by kernel_rfl) (by kernel_rfl) (fun _ _ _ h => h) (Or.inl ⟨by rfl, fun w hSw => by (go_simp)⟩) hHeld ?_
            (try simp only [Act.put, List.getElem_toArray, List.getElem_cons_succ, List.getElem_cons_zero, List.setIfInBounds_toArray, List.set_cons_zero, List.set_cons_succ])
            refine wpAnyH_take (i := 7) (v := (.slice (some ⟨lb, 2, none⟩) 6 (capl - 2))) rfl (by kernel_rfl) (by kernel_rfl) (by kernel_rfl) (fun _ _ _ h => h) (Or.inl ⟨by rfl, fun w hSw => by (go_simp)⟩) hHeld ?_
            (try simp only [Act.put, List.getElem_toArray, List.getElem_cons_succ, List.getElem_cons_zero, List.setIfInBounds_toArray, List.set_cons_zero, List.set_cons_succ])
            refine wpAnyH_ready (rs := [8, 9]) (by kernel_rfl) (by simp) ?_
            refine AllReadyH.cons rfl (fun K hK => ?_) (AllReadyH.cons rfl (fun K hK => ?_) AllReadyH.nil)
            · go_simp
              go_wp2_with (go_at_call 40; refine (HMade.out _ (Below.refl _ _).drew).mono ?_; rintro e w9 ⟨rfl, hb9⟩)
              have hb9 := (Below.refl w8.heap.size w8).drew.trans hb9
              refine hK.out _ _ (HBw2.out _ hb9) (fun hHeld2 => ?_)
              clear hHeld hK K
              have hHeld := hHeld2
              clear hHeld2
              (try simp only [Act.put, List.getElem_toArray, List.getElem_cons_succ, List.getElem_cons_zero, List.setIfInBounds_toArray, List.set_cons_zero, List.set_cons_succ])
              refine wpAnyH_ready (rs := [9]) (by kernel_rfl) (by simp) ?_
              refine AllReadyH.cons rfl (fun K hK => ?_) AllReadyH.nil
              go_simp
              go_wp2_with (fail)
              have hal := hb9.trans ((Below.refl w9.heap.size w9).alloc (Nat.le_refl _) (Obj.cells #[.int .i64 0, .int .i64 0, .int .i64 0, .int .i64 0, .int .i64 0, .int .i64 0, .int .i64 0, .int .i64 0] 23) |>.mono hb9.size)
              have hT := there_new w9 #[.int .i64 0, .int .i64 0, .int .i64 0, .int .i64 0, .int .i64 0, .int .i64 0, .int .i64 0, .int .i64 0] 23 8 (by decide)
              have HR9 := Lib.hid (World.there.below HRt8.out (by omega) hal)
              have HE9 := Lib.hid (HE8.out.below (hal.mono HE8.out.size))
              have HT9 := Lib.hid (HT8.out.on hal)
              have HB9 := Lib.hid (bbase HB8.out hal)
              have hS9 := HBw2.out _ hal
              have hs9 := hb9.size
              have hs9b : w9.heap.size < (w9.alloc (Obj.cells #[.int .i64 0, .int .i64 0, .int .i64 0, .int .i64 0, .int .i64 0, .int .i64 0, .int .i64 0, .int .i64 0] 23)).heap.size := by simp
              generalize w9.alloc (Obj.cells #[.int .i64 0, .int .i64 0, .int .i64 0, .int .i64 0, .int .i64 0, .int .i64 0, .int .i64 0, .int .i64 0] 23) = W9 at *
              have hebw : w8.heap.size ≤ w9.heap.size := hs9
              generalize w9.heap.size = ob at *
              refine hK.out _ _ hS9 (fun hHeld2 => ?_)
              clear hHeld hK K hal
              have hHeld := hHeld2
              clear hHeld2
              (try simp only [Act.put, List.getElem_toArray, List.getElem_cons_succ, List.getElem_cons_zero, List.setIfInBounds_toArray, List.set_cons_zero, List.set_cons_succ])
              refine wpAnyH_ready (rs := [10]) (by kernel_rfl) (by simp) ?_
              refine AllReadyH.cons rfl (fun K hK => ?_) AllReadyH.nil
              rw [if_pos (by kernel_rfl)]
              refine wp_store_mid 23 _ _ rfl ob 0 #[.int .i64 y0, .int .i64 y1, .int .i64 y2, .int .i64 y3, .int .i64 y4, .int .i64 y5, .int .i64 y6, .int .i64 y7] rfl rfl (hT) (by kernel_rfl) (by simp [Value.oneCell']) ?_
              have hk10 := keep_setCells W9 ob [.int .i64 y0, .int .i64 y1, .int .i64 y2, .int .i64 y3, .int .i64 y4, .int .i64 y5, .int .i64 y6, .int .i64 y7] 0
              have hc : (W9.setCells ob 0 [.int .i64 y0, .int .i64 y1, .int .i64 y2, .int .i64 y3, .int .i64 y4, .int .i64 y5, .int .i64 y6, .int .i64 y7]).rangeAt ob 0 [.int .i64 y0, .int .i64 y1, .int .i64 y2, .int .i64 y3, .int .i64 y4, .int .i64 y5, .int .i64 y6, .int .i64 y7] := World.rangeAt_setCells_same _ _ _ _ (hT)
              have hb10 : Below ob W9 (W9.setCells ob 0 [.int .i64 y0, .int .i64 y1, .int .i64 y2, .int .i64 y3, .int .i64 y4, .int .i64 y5, .int .i64 y6, .int .i64 y7]) := hk10.below (by omega) (fun j hj e => by omega)
              have HB10 := Lib.hid (HB9.out.trans (hb10.mono (by omega)))
              have HE10 := Lib.hid (HE9.out.below (hb10.mono (by omega)))
              have HT10 := Lib.hid (HT9.out.below (hb10.mono (by omega)))
              have HR10 : Hid ((W9.setCells ob 0 [.int .i64 y0, .int .i64 y1, .int .i64 y2, .int .i64 y3, .int .i64 y4, .int .i64 y5, .int .i64 y6, .int .i64 y7]).there w.heap.size 0 8) := fun j hj => ⟨by rw [hb10.cell (p := ⟨w.heap.size, 0 + j, none⟩) (show w.heap.size < ob by omega)]; exact (HR9.out j hj).1, (hb10.frozen (p := ⟨w.heap.size, 0 + j, none⟩) (show w.heap.size < ob by omega)).trans (HR9.out j hj).2⟩
              have hS10 : (W9.setCells ob 0 [.int .i64 y0, .int .i64 y1, .int .i64 y2, .int .i64 y3, .int .i64 y4, .int .i64 y5, .int .i64 y6, .int .i64 y7]).cell? ⟨lb, 0, none⟩ = some (.int .i64 y0) ∧ (W9.setCells ob 0 [.int .i64 y0, .int .i64 y1, .int .i64 y2, .int .i64 y3, .int .i64 y4, .int .i64 y5, .int .i64 y6, .int .i64 y7]).cell? ⟨lb, 1, none⟩ = some (.int .i64 y1) := ⟨(hb10.cell (p := ⟨lb, 0, none⟩) (show lb < ob by omega)).trans hS9.1, (hb10.cell (p := ⟨lb, 1, none⟩) (show lb < ob by omega)).trans hS9.2⟩
              have hob : w.heap.size < ob := by omega
              refine hK.out _ _ hS10 (fun hHeld2 => ?_)
              clear hHeld hK K hk10 hb10
              have hHeld := hHeld2
              clear hHeld2
              dsimp only [Array.toList] at *
              generalize W9.setCells ob 0 [.int .i64 y0, .int .i64 y1, .int .i64 y2, .int .i64 y3, .int .i64 y4, .int .i64 y5, .int .i64 y6, .int .i64 y7] = W10 at *
              (try simp only [Act.put, List.getElem_toArray, List.getElem_cons_succ, List.getElem_cons_zero, List.setIfInBounds_toArray, List.set_cons_zero, List.set_cons_succ])
              refine wpAnyH_done (by kernel_rfl) ?_ _
              go_wp2_with fail
              go_meet
              exact ⟨ob, rfl, ⟨hc 0 _ rfl, hc 1 _ rfl, hc 2 _ rfl, hc 3 _ rfl, hc 4 _ rfl, hc 5 _ rfl, hc 6 _ rfl, hc 7 _ rfl⟩, HB10, HR10, HE10, HT10, hob⟩
            · go_simp
              go_wp2_with (fail)
              have hal : Below w8.heap.size w8 ((w8.alloc (Obj.cells #[.int .i64 0, .int .i64 0, .int .i64 0, .int .i64 0, .int .i64 0, .int .i64 0, .int .i64 0, .int .i64 0] 23)).drew) := ((Below.refl _ _).alloc (Nat.le_refl _) _).drew
              have hT : ((w8.alloc (Obj.cells #[.int .i64 0, .int .i64 0, .int .i64 0, .int .i64 0, .int .i64 0, .int .i64 0, .int .i64 0, .int .i64 0] 23)).drew).there w8.heap.size 0 8 := there_new w8 #[.int .i64 0, .int .i64 0, .int .i64 0, .int .i64 0, .int .i64 0, .int .i64 0, .int .i64 0, .int .i64 0] 23 8 (by decide)
              have hs9b : w8.heap.size < ((w8.alloc (Obj.cells #[.int .i64 0, .int .i64 0, .int .i64 0, .int .i64 0, .int .i64 0, .int .i64 0, .int .i64 0, .int .i64 0] 23)).drew).heap.size := by simp
              generalize (w8.alloc (Obj.cells #[.int .i64 0, .int .i64 0, .int .i64 0, .int .i64 0, .int .i64 0, .int .i64 0, .int .i64 0, .int .i64 0] 23)).drew = V9 at *
              refine hK.out _ _ (HBw2.out _ hal) (fun hHeld2 => ?_)
              clear hHeld hK K
              have hHeld := hHeld2
              clear hHeld2
              (try simp only [Act.put, List.getElem_toArray, List.getElem_cons_succ, List.getElem_cons_zero, List.setIfInBounds_toArray, List.set_cons_zero, List.set_cons_succ])
              refine wpAnyH_ready (rs := [8]) (by kernel_rfl) (by simp) ?_
              refine AllReadyH.cons rfl (fun K hK => ?_) AllReadyH.nil
              go_simp
              go_wp2_with (go_at_call 40; refine (HMade.out _ hal).mono ?_; rintro e w9 ⟨rfl, hb9⟩)
              have hT := World.there.below hT hs9b hb9
              have hal := hal.trans (hb9.mono hal.size)
              have hs9 : V9.heap.size ≤ w9.heap.size := hb9.size
              have HR9 := Lib.hid (World.there.below HRt8.out (by omega) hal)
              have HE9 := Lib.hid (HE8.out.below (hal.mono HE8.out.size))
              have HT9 := Lib.hid (HT8.out.on hal)
              have HB9 := Lib.hid (bbase HB8.out hal)
              have hS9 := HBw2.out _ hal
              refine hK.out _ _ hS9 (fun hHeld2 => ?_)
              clear hHeld hK K hal hb9
              have hHeld := hHeld2
              clear hHeld2
              (try simp only [Act.put, List.getElem_toArray, List.getElem_cons_succ, List.getElem_cons_zero, List.setIfInBounds_toArray, List.set_cons_zero, List.set_cons_succ])
              refine wpAnyH_ready (rs := [10]) (by kernel_rfl) (by simp) ?_
              refine AllReadyH.cons rfl (fun K hK => ?_) AllReadyH.nil
              rw [if_pos (by kernel_rfl)]
              refine wp_store_mid 23 _ _ rfl w8.heap.size 0 #[.int .i64 y0, .int .i64 y1, .int .i64 y2, .int .i64 y3, .int .i64 y4, .int .i64 y5, .int .i64 y6, .int .i64 y7] rfl rfl (hT) (by kernel_rfl) (by simp [Value.oneCell']) ?_
              have hk10 := keep_setCells w9 w8.heap.size [.int .i64 y0, .int .i64 y1, .int .i64 y2, .int .i64 y3, .int .i64 y4, .int .i64 y5, .int .i64 y6, .int .i64 y7] 0
              have hc : (w9.setCells w8.heap.size 0 [.int .i64 y0, .int .i64 y1, .int .i64 y2, .int .i64 y3, .int .i64 y4, .int .i64 y5, .int .i64 y6, .int .i64 y7]).rangeAt w8.heap.size 0 [.int .i64 y0, .int .i64 y1, .int .i64 y2, .int .i64 y3, .int .i64 y4, .int .i64 y5, .int .i64 y6, .int .i64 y7] := World.rangeAt_setCells_same _ _ _ _ (hT)
              have hb10 : Below w8.heap.size w9 (w9.setCells w8.heap.size 0 [.int .i64 y0, .int .i64 y1, .int .i64 y2, .int .i64 y3, .int .i64 y4, .int .i64 y5, .int .i64 y6, .int .i64 y7]) := hk10.below (by omega) (fun j hj e => by omega)
              have HB10 := Lib.hid (HB9.out.trans (hb10.mono (by omega)))
              have HE10 := Lib.hid (HE9.out.below (hb10.mono (by omega)))
              have HT10 := Lib.hid (HT9.out.below (hb10.mono (by omega)))
              have HR10 : Hid ((w9.setCells w8.heap.size 0 [.int .i64 y0, .int .i64 y1, .int .i64 y2, .int .i64 y3, .int .i64 y4, .int .i64 y5, .int .i64 y6, .int .i64 y7]).there w.heap.size 0 8) := fun j hj => ⟨by rw [hb10.cell (p := ⟨w.heap.size, 0 + j, none⟩) (show w.heap.size < w8.heap.size by omega)]; exact (HR9.out j hj).1, (hb10.frozen (p := ⟨w.heap.size, 0 + j, none⟩) (show w.heap.size < w8.heap.size by omega)).trans (HR9.out j hj).2⟩
              have hS10 : (w9.setCells w8.heap.size 0 [.int .i64 y0, .int .i64 y1, .int .i64 y2, .int .i64 y3, .int .i64 y4, .int .i64 y5, .int .i64 y6, .int .i64 y7]).cell? ⟨lb, 0, none⟩ = some (.int .i64 y0) ∧ (w9.setCells w8.heap.size 0 [.int .i64 y0, .int .i64 y1, .int .i64 y2, .int .i64 y3, .int .i64 y4, .int .i64 y5, .int .i64 y6, .int .i64 y7]).cell? ⟨lb, 1, none⟩ = some (.int .i64 y1) := ⟨(hb10.cell (p := ⟨lb, 0, none⟩) (show lb < w8.heap.size by omega)).trans hS9.1, (hb10.cell (p := ⟨lb, 1, none⟩) (show lb < w8.heap.size by omega)).trans hS9.2⟩
              have hob : w.heap.size < w8.heap.size := by omega
              refine hK.out _ _ hS10 (fun hHeld2 => ?_)
              clear hHeld hK K hk10 hb10
              have hHeld := hHeld2
              clear hHeld2
              dsimp only [Array.toList] at *
              generalize w9.setCells w8.heap.size 0 [.int .i64 y0, .int .i64 y1, .int .i64 y2, .int .i64 y3, .int .i64 y4, .int .i64 y5, .int .i64 y6, .int .i64 y7] = W10 at *
              (try simp only [Act.put, List.getElem_toArray, List.getElem_cons_succ, List.getElem_cons_zero, List.setIfInBounds_toArray, List.set_cons_zero, List.set_cons_succ])
              refine wpAnyH_done (by kernel_rfl) ?_ _
              go_wp2_with fail
              go_meet
              exact ⟨w8.heap.size, rfl, ⟨hc 0 _ rfl, hc 1 _ rfl, hc 2 _ rfl, hc 3 _ rfl, hc 4 _ rfl, hc 5 _ rfl, hc 6 _ rfl, hc 7 _ rfl⟩, HB10, HR10, HE10, HT10, hob⟩
          case rest =>
            obtain ⟨ob, rfl, HOx, HBx, HRx, HEx, HTx, hobx⟩ := hcut
            have q0 := HOx.out.c0; have q1 := HOx.out.c1; have q2 := HOx.out.c2; have q3 := HOx.out.c3; have q4 := HOx.out.c4; have q5 := HOx.out.c5; have q6 := HOx.out.c6; have q7 := HOx.out.c7
            have hol := HOx.out.lt
            have HVc := Lib.hid (valid_calls HEx.out HTx.out y0 y1 y2 y3 y4 y5 y6 y7)
            rw [HV.out] at HRO HF
            generalize validC y0 y1 y2 y3 y4 y5 y6 y7 = vc at *
            clear HMade HBw2 HR8 HRt8 HE8 HT8 HB8 n0 n1
            go_wp2_with fail
            refine HVc.out.mono ?_
            rintro e w11 ⟨rfl, hb⟩
            have HO11 := HOx.out.below hb
            have HR11 := Lib.hid (World.there.below HRx.out (by omega) hb)
            have HB11 := Lib.hid (bbase HBx.out hb)
            have hs11 : ob < w11.heap.size := by have := hb.size; omega
            have hnz : ¬ ob = w.heap.size := by omega
            clear hb HOx HRx HBx HEx HTx HVc q0 q1 q2 q3 q4 q5 q6 q7 hol
            by_cases hv : vc = 0
            · subst hv
              have hrv : readO l = opV y0 y1 y2 y3 y4 y5 y6 y7 := HRO.out
              have c0 := HO11.c0; have c1 := HO11.c1; have c2 := HO11.c2; have c3 := HO11.c3; have c4 := HO11.c4; have c5 := HO11.c5; have c6 := HO11.c6; have c7 := HO11.c7
              rw [show valV p 0 = .nilIface from rfl]
              go_wp2_with (refine wpList_store_mid rfl 23 _ _ rfl w.heap.size 0 #[.int .i64 y0, .int .i64 y1, .int .i64 y2, .int .i64 y3, .int .i64 y4, .int .i64 y5, .int .i64 y6, .int .i64 y7] rfl rfl HR11.out (by kernel_rfl) (by simp [Value.oneCell']) ?_)
              have hthere := HR11.out
              have hB2 : Below w.heap.size w (w11.setCells w.heap.size 0 [.int .i64 y0, .int .i64 y1, .int .i64 y2, .int .i64 y3, .int .i64 y4, .int .i64 y5, .int .i64 y6, .int .i64 y7]) := HB11.out.trans ((keep_setCells w11 w.heap.size _ 0).below (by omega) (fun j hj e => by omega))
              have hc : (w11.setCells w.heap.size 0 [.int .i64 y0, .int .i64 y1, .int .i64 y2, .int .i64 y3, .int .i64 y4, .int .i64 y5, .int .i64 y6, .int .i64 y7]).rangeAt w.heap.size 0 [.int .i64 y0, .int .i64 y1, .int .i64 y2, .int .i64 y3, .int .i64 y4, .int .i64 y5, .int .i64 y6, .int .i64 y7] := World.rangeAt_setCells_same _ _ _ _ hthere
              generalize w11.setCells w.heap.size 0 [.int .i64 y0, .int .i64 y1, .int .i64 y2, .int .i64 y3, .int .i64 y4, .int .i64 y5, .int .i64 y6, .int .i64 y7] = W2 at *
              have r0 := hc 0 _ rfl; have r1 := hc 1 _ rfl; have r2 := hc 2 _ rfl; have r3 := hc 3 _ rfl; have r4 := hc 4 _ rfl; have r5 := hc 5 _ rfl; have r6 := hc 6 _ rfl; have r7 := hc 7 _ rfl
              refine bodyPost_ret (v := .tuple #[opV y0 y1 y2 y3 y4 y5 y6 y7, .nilIface]) (by simp [results, Tryz.results15, go_sem, r0, r1, r2, r3, r4, r5, r6, r7]) rfl ⟨⟨_, by rw [hrv], .inl ⟨by rw [HF.out]; rfl, rfl⟩⟩, hB2⟩
            · obtain ⟨ad, had⟩ := valV_ne (p := p) hv
              have hrv : readO l = opV 0 0 0 0 0 0 0 0 := by
                rw [HRO.out]
                exact if_neg (by show ¬ codeV vc = 0; unfold codeV; split <;> first | omega | simp_all)
              have hff : ∃ k, k < 21 ∧ readF l = (101 + k, false, 0) ∧ valV p vc = ev p k := by
                rw [HF.out]
                match vc, hv with
                | 1, _ => exact ⟨2, by decide, rfl, rfl⟩
                | c + 2, _ => exact ⟨10, by decide, rfl, rfl⟩
              have HFF := Lib.hid hff
              have HRv := Lib.hid hrv
              rw [had] at HFF ⊢
              clear had hff hrv HF HRO
              go_wp2_with (refine wpList_store_mid rfl 23 _ _ rfl w.heap.size 0 #[.int .i64 0, .int .i64 0, .int .i64 0, .int .i64 0, .int .i64 0, .int .i64 0, .int .i64 0, .int .i64 0] rfl rfl HR11.out (by kernel_rfl) (by simp [Value.oneCell']) ?_)
              have hthere := HR11.out
              have hB2 : Below w.heap.size w (w11.setCells w.heap.size 0 [.int .i64 0, .int .i64 0, .int .i64 0, .int .i64 0, .int .i64 0, .int .i64 0, .int .i64 0, .int .i64 0]) := HB11.out.trans ((keep_setCells w11 w.heap.size _ 0).below (by omega) (fun j hj e => by omega))
              have hc : (w11.setCells w.heap.size 0 [.int .i64 0, .int .i64 0, .int .i64 0, .int .i64 0, .int .i64 0, .int .i64 0, .int .i64 0, .int .i64 0]).rangeAt w.heap.size 0 [.int .i64 0, .int .i64 0, .int .i64 0, .int .i64 0, .int .i64 0, .int .i64 0, .int .i64 0, .int .i64 0] := World.rangeAt_setCells_same _ _ _ _ hthere
              generalize w11.setCells w.heap.size 0 [.int .i64 0, .int .i64 0, .int .i64 0, .int .i64 0, .int .i64 0, .int .i64 0, .int .i64 0, .int .i64 0] = W2 at *
              have r0 := hc 0 _ rfl; have r1 := hc 1 _ rfl; have r2 := hc 2 _ rfl; have r3 := hc 3 _ rfl; have r4 := hc 4 _ rfl; have r5 := hc 5 _ rfl; have r6 := hc 6 _ rfl; have r7 := hc 7 _ rfl
              refine bodyPost_ret (v := .tuple #[opV 0 0 0 0 0 0 0 0, .iface 146 (.pointer (some ad))]) (by simp [results, Tryz.results15, go_sem, r0, r1, r2, r3, r4, r5, r6, r7]) rfl ⟨⟨_, by rw [HRv.out], .inr (.inl HFF.out)⟩, hB2⟩
/-- op.Read at any bytes. -/
theorem readOp_calls {B : Nat} {p : Nat → Addr} {w : World} (hE : Errs (List.range 21) B p w) (hT : OpW B w) {v : Value} {l : List UInt8} (hR : RdB w v (bytesI l)) (hl : l.length ≤ 140737488355328) :
    Calls Tryz.prog 15 #[v] w fun e w' => (∃ er, e = .returned (.tuple #[readO l, er]) ∧ ErrIs p w' er (readF l)) ∧ Below w.heap.size w w' := by
  by_cases h : l.length ≤ 256
  · exact read_short25 hE hT hR h
  · have hf : readF l = (105, false, 0) := if_pos (by omega)
    refine (read_long hE hR (by omega) hl).mono ?_
    rintro e w' ⟨rfl, hb⟩
    exact ⟨⟨_, by unfold readO; rw [hf]; rfl, .inr (.inl ⟨4, by decide, hf, rfl⟩)⟩, hb⟩
end Go.Proofs.YtchbkceconlbkaaGreatDoor
