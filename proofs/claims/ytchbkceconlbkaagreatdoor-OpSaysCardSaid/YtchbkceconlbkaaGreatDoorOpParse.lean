/- op.Parse as a whole. (Written by gen_parse.py.) -/
import Derived.Test.YtchbkceconlbkaaGreatDoorOpPar1
import Derived.Test.YtchbkceconlbkaaGreatDoorOpMade
import Derived.Test.YtchbkceconlbkaaGreatDoorPlayKit
namespace Go.Proofs.YtchbkceconlbkaaGreatDoor
open Go Go.RowKit
set_option linter.unusedSimpArgs false
set_option linter.unusedVariables false

theorem infoI64P : (Tryz.prog.info? 2).map (fun i => (i.zero, i.size, i.bytes)) = some (some (.int .i64 0), 1, 8) := by kernel_rfl
theorem made6 : (madeCells #[Value.int .i64 0] 6).toList = List.map (fun _ => Value.int .i64 0) (List.range 6) := by kernel_rfl
theorem range_snoc (f : Nat → Int) (q : Nat) : (List.range (q + 1)).map f = (List.range q).map f ++ [f q] := by rw [List.range_succ, List.map_append]; rfl
theorem fAt_zero (u : List UInt8) (f : Nat → Int) (j : Nat) : fAt u f 0 j = 0 := by unfold fAt; rw [if_neg (by omega)]
set_option maxHeartbeats 16000000 in
set_option maxRecDepth 100000 in
theorem parse_rest {B : Nat} {p : Nat → Addr} {w : World} (hE : Errs (List.range 21) B p w) (hT : ParW B w) (a : Option Addr) (cap : Nat) (ws : List ByteArray) (hR : SRow w a ws) (hsz : ∀ j, j < ws.length → (ws.getD j ⟨#[]⟩).size ≤ 281474976710656)
    (hk0 : kindW ws ≠ 0) (hlen : ws.length = 2 + (usesL (kindW ws)).length) :
    Calls Tryz.prog 17 #[.slice a ws.length cap] w fun e w' => e = .returned (.tuple #[parseO ws, errN p (parseC ws)]) ∧ Below w.heap.size w w' := by
  obtain ⟨rv, hrv⟩ : ∃ rv, rv = Value.tuple #[parseO ws, errN p (parseC ws)] := ⟨_, rfl⟩
  have HBad : Hid (∀ q, q < ws.length → fitsAt ws q = false → rv = .tuple #[opV 0 0 0 0 0 0 0 0, ev p 18]) := fun q hq hf => by
    have hc : parseC ws = 119 := by
      unfold parseC
      rw [if_neg (by omega), if_neg hk0, if_neg (by omega), if_pos]
      rw [List.all_eq_false]
      exact ⟨q, by simpa using hq, by simp [hf]⟩
    rw [hrv]; unfold parseO; rw [hc]; rfl
  have HGood : Hid ((∀ q, q < ws.length → fitsAt ws q = true) → rv = .tuple #[if validW ws = 0 then opV (numAt ws 0) (kindW ws) (fieldW ws 0) (fieldW ws 1) (fieldW ws 2) (fieldW ws 3) (fieldW ws 4) (fieldW ws 5) else opV 0 0 0 0 0 0 0 0, valV p (validW ws)]) := fun hf => by
    have hc : parseC ws = codeV (validW ws) := by
      unfold parseC
      rw [if_neg (by omega), if_neg hk0, if_neg (by omega), if_neg]
      rw [Bool.not_eq_false, List.all_eq_true]
      exact fun i hi => hf i (by simpa using hi)
    rw [hrv]; unfold parseO; rw [hc, errN_valV]
    have hz : codeV (validW ws) = 0 ↔ validW ws = 0 := by unfold codeV; split <;> simp_all
    simp only [hz]
  rw [← hrv]
  clear hrv
  obtain ⟨g, off, rfl, hgs, hcell⟩ := hR.open (by omega)
  have hx := hcell 1 (by omega)
  have HCell := Lib.hid hcell
  have HSz := Lib.hid hsz
  clear hR hcell hsz
  have hBw := hE.size
  have hE0 := Lib.hid hE
  have hT0 := Lib.hid hT
  clear hE hT
  have hk16 := (kindOf_idx (ws.getD 1 ⟨#[]⟩)).2
  change kindW ws ≤ 16 at hk16
  have hkw : kindOf (ws.getD 1 ⟨#[]⟩) = kindW ws := rfl
  have HU := Lib.hid (fun (w' : World) (h : OpW B w') => uses_calls h (k := (kindW ws : Int)) (by omega) (by omega))
  have hul : (usesL (kindW ws)).length = (usesB (kindW ws)).size := rfl
  rw [hul] at hlen
  simp only [Int.toNat_natCast] at HU
  have hus := uses_size (kindW ws)
  have HLet := Lib.hid (uses_letters (kindW ws))
  have HSucc := Lib.hid (fun q hq j (hj : j < 6) => fAt_succ (k := kindW ws) (q := q) (by omega) hq (numAt ws) hj)
  have HUL : Hid (usesL (kindW ws) = (usesB (kindW ws)).data.toList) := rfl
  have HVal := Lib.hid (show validW ws = validC (numAt ws 0) (kindW ws) (fAt (usesL (kindW ws)) (numAt ws) (usesL (kindW ws)).length 0) (fAt (usesL (kindW ws)) (numAt ws) (usesL (kindW ws)).length 1) (fAt (usesL (kindW ws)) (numAt ws) (usesL (kindW ws)).length 2) (fAt (usesL (kindW ws)) (numAt ws) (usesL (kindW ws)).length 3) (fAt (usesL (kindW ws)) (numAt ws) (usesL (kindW ws)).length 4) (fAt (usesL (kindW ws)) (numAt ws) (usesL (kindW ws)).length 5) from rfl)
  have HFld : Hid (∀ j, fieldW ws j = fAt (usesL (kindW ws)) (numAt ws) (usesL (kindW ws)).length j) := fun j => rfl
  generalize usesB (kindW ws) = u at hlen HU hus HLet HUL
  clear hul
  generalize usesL (kindW ws) = ul at HSucc HUL HVal HFld
  generalize kindW ws = k at hkw hk16 hk0 HU HSucc HVal HGood
  generalize ws.getD 1 ⟨#[]⟩ = x at hx hkw
  generalize ws.length = n at hlen HBad HGood HCell HSz ⊢
  have hn : 2 ≤ n := by omega
  have hd : decide ((n : Int) < 2) = false := decide_eq_false (by omega)
  have hn7 : n ≤ 7 := by omega
  have HLen := Lib.hid hlen
  clear hlen
  have hR := there_new w #[.int .i64 0, .int .i64 0, .int .i64 0, .int .i64 0, .int .i64 0, .int .i64 0, .int .i64 0, .int .i64 0] 23 8 (by decide)
  have HB : Below w.heap.size w (w.alloc (Obj.cells #[.int .i64 0, .int .i64 0, .int .i64 0, .int .i64 0, .int .i64 0, .int .i64 0, .int .i64 0, .int .i64 0] 23)) := (Below.refl _ _).alloc (Nat.le_refl _) _
  have hx := (HB.cell (p := ⟨g, off + 1, none⟩) hgs).trans hx
  have hs : w.heap.size < (w.alloc (Obj.cells #[.int .i64 0, .int .i64 0, .int .i64 0, .int .i64 0, .int .i64 0, .int .i64 0, .int .i64 0, .int .i64 0] 23)).heap.size := by simp
  have HE := Lib.hid (hE0.out.below (HB.mono hE0.out.size))
  have HT := Lib.hid (hT0.out.on HB)
  have hgs' : g < (w.alloc (Obj.cells #[.int .i64 0, .int .i64 0, .int .i64 0, .int .i64 0, .int .i64 0, .int .i64 0, .int .i64 0, .int .i64 0] 23)).heap.size := by omega
  clear hE0 hT0
  go_enter Tryz.func17, Tryz.ntmps17
  go_wp2_with fail
  generalize w.alloc (Obj.cells #[.int .i64 0, .int .i64 0, .int .i64 0, .int .i64 0, .int .i64 0, .int .i64 0, .int .i64 0, .int .i64 0] 23) = W1 at hR HB hx hs HE HT hgs' ⊢
  have HRH := Lib.hid hR
  clear hR
  have hk1 : (1 : Int) < (n : Int) := by omega
  have hwk : IntKind.i64.wrap (k : Int) = k := IntWalk.i64_in _ (by omega)
  go_region_held3 (fun w1 => w1.cell? ⟨g, off + 1, none⟩ = some (.string x) ∧ g < w1.heap.size)
    (((repeat' apply And.intro) <;> (first | (exact hB.trans (hb.mono (by omega))) | (have hsz := hb.size; omega) | (rw [hb.cell (p := ⟨_, _, none⟩) (by first | assumption | (simp; done))]; assumption) | assumption | (simp [*]; done)))) (first | (go_at_call 30; obtain ⟨hx1, hg1⟩ := ‹_ ∧ _›; refine (names2_calls (HT.out.on (Below.refl _ _).drew).op).mono ?_; rintro e w2 ⟨rfl, hb, hidx⟩; have HB2 := Lib.hid (HB.drew.trans (hb.mono HB.size)); have HR2 := Lib.hid (World.there.below ((World.there_drew _ _ _ _).2 HRH.out) hs hb); have HE2 := Lib.hid (HE.out.below (((Below.refl _ _).drew.trans hb).mono HE.out.size)); have HT2 := Lib.hid (HT.out.on ((Below.refl _ _).drew.trans hb)); have hs2 := hb.size) | (go_at_call 46; have hidx2 := hidx x; rw [hkw] at hidx2; refine hidx2.mono ?_; rintro e w3 ⟨rfl, rfl⟩))
  have hs3 : w.heap.size < w2.heap.size := by have h : W1.drew.heap.size = W1.heap.size := rfl; omega
  clear hidx hidx2 hb HB HE HT HRH hx1 hg1 hs2 hs hx hgs'
  have hkd : ((k : Int) == 0) = false := by simp; omega
  have hsub : IntKind.i64.wrap ((n : Int) - 2) = (n : Int) - 2 := IntWalk.i64_in _ (by omega)
  have hcmp : (((n : Int) - 2) != (u.size : Int)) = false := by have := HLen.out; simp; omega
  have HC := HU.out w2 HT2.out.op
  go_wp2_with fail
  refine HC.mono ?_
  rintro e w3 ⟨rfl, hb⟩
  have HR3 := Lib.hid (World.there.below HR2.out hs3 hb)
  have HE3 := Lib.hid (HE2.out.below (hb.mono HE2.out.size))
  have HT3 := Lib.hid (HT2.out.on hb)
  have HB3 := Lib.hid (bbase HB2.out hb)
  have hs4 : w.heap.size < w3.heap.size := by have := hb.size; omega
  clear hb HR2 HE2 HB2 HT2 hs3 HC
  go_wp2_with fail
  clear hcmp hsub hkd hd hwk hx hkw hk1
  have HO3 : Hid (OwnI 2 (w.heap.size + 1) w3 (.slice none 0 0) ((List.range 0).map (numAt ws))) := OwnI.nil _ _ _
  go_loopw [41, 5] (fun i v wr => ∃ q : Nat, q ≤ n ∧ i = .int .i64 q ∧ Hid (OwnI 2 (w.heap.size + 1) wr v ((List.range q).map (numAt ws))) ∧ Hid (∀ j, j < q → fitsAt ws j = true) ∧ Hid (wr.there w.heap.size 0 8) ∧ Hid (Errs (List.range 21) B p wr) ∧ Hid (ParW B wr) ∧ Hid (Below w.heap.size w wr) ∧ w.heap.size < wr.heap.size) (fun i _ _ => n - (intOf i).toNat)
  case atStart => exact ⟨0, by omega, rfl, HO3, fun j hj => absurd hj (Nat.not_lt_zero j), HR3, HE3, HT3, HB3, hs4⟩
  case round =>
    obtain ⟨q, hq, rfl, hO, hF, hR, hE, hT, hB, hsr⟩ := hrel
    clear HO3 HR3 HE3 HT3 HB3 hs4
    by_cases hqn : q < n
    · have hd1 := (hB.out.cell (p := ⟨g, off + q, none⟩) hgs).trans (HCell.out q hqn)
      have HNum := Lib.hid (fun (w' : World) (h : ParW B w') => opNumber_calls h (ws.getD q ⟨#[]⟩) (HSz.out q hqn))
      have HNV := Lib.hid (show numW (ws.getD q ⟨#[]⟩).data.toList = (numAt ws q, (numW (wordAt ws q)).2) from rfl)
      have HFit := Lib.hid (show fitsAt ws q = (q == 1 || (numW (wordAt ws q)).2) from rfl)
      rw [HNV.out] at HNum
      generalize (numW (wordAt ws q)).2 = bq at HNum HFit
      have HOx := Lib.hid (range_snoc (numAt ws) q)
      have HLx : Hid (((List.range q).map (numAt ws)).length ≤ 1000000) := by unfold Hid; simp; omega
      generalize numAt ws q = z at HNum HOx
      generalize ws.getD q ⟨#[]⟩ = x at hd1 HNum
      clear HNV
      go_wp2_with fail
      refine (HNum.out _ hT.out).mono ?_
      rintro e w4 ⟨rfl, hb⟩
      have HR4 := Lib.hid (World.there.below hR.out hsr hb)
      have HE4 := Lib.hid (hE.out.below (hb.mono hE.out.size))
      have HT4 := Lib.hid (hT.out.on hb)
      have HB4 := Lib.hid (bbase hB.out hb)
      have HO4 := Lib.hid (hO.out.below hb)
      have hs4 : w.heap.size < w4.heap.size := by have := hb.size; omega
      clear hb hR hE hT hB hO hsr HNum hd1
      go_upto_region 11 with fail
      by_cases hok : fitsAt ws q = true
      · go_cut [56] (fun v wx => v = .bool false ∧ w4 = wx)
        case first =>
          by_cases hq1 : q = 1
          · subst hq1
            go_wp2_with fail
            go_meet
            exact ⟨rfl, rfl⟩
          · have hne1 : ((q : Int) != 1) = true := by simp; omega
            have hbq : bq = true := by have h := HFit.out; rw [hok] at h; simpa [hq1] using h.symm
            subst hbq
            go_wp2_with fail
            go_meet
            exact ⟨rfl, rfl⟩
        case rest =>
          obtain ⟨rfl, rfl⟩ := hcut
          have hcz : (w4.alloc (Obj.cells #[.int .i64 z] 2)).cell? ⟨w4.heap.size, 0, none⟩ = some (.int .i64 z) := by go_simp
          have hbs : w.heap.size + 1 ≤ (w4.alloc (Obj.cells #[.int .i64 z] 2)).heap.size := by simp; omega
          have hal : Below w4.heap.size w4 (w4.alloc (Obj.cells #[.int .i64 z] 2)) := (Below.refl _ _).alloc (Nat.le_refl _) _
          have HO5 := Lib.hid (HO4.out.below hal)
          have HR5 := Lib.hid (World.there.below HR4.out hs4 hal)
          have HE5 := Lib.hid (HE4.out.below (hal.mono HE4.out.size))
          have HT5 := Lib.hid (HT4.out.on hal)
          have HB5 := Lib.hid (bbase HB4.out hal)
          have Hcz := Lib.hid hcz
          have Hbs := Lib.hid hbs
          clear hal hcz hbs HR4 HE4 HT4 HB4 HO4
          go_wp2_with (at_builtin; refine wpList_app1b rfl _ _ 53 rfl 2 Tryz.underlying53 infoI64P (w.heap.size + 1) _ _ rfl HO5.out w4.heap.size 1 z rfl Hcz.out HLx.out Hbs.out ?_)
          intro v' w5 ho5 hk5 hv5
          have hblk := HO5.out.block
          have HO6 : Hid (OwnI 2 (w.heap.size + 1) w5 v' ((List.range (q + 1)).map (numAt ws))) := by rw [HOx.out]; exact ho5
          have hs5 : w.heap.size < (w4.alloc (Obj.cells #[.int .i64 z] 2)).heap.size := by have := Hbs.out; omega
          have hb5 : Below (w.heap.size + 1) (w4.alloc (Obj.cells #[.int .i64 z] 2)) w5 := hk5.below Hbs.out (fun j hj h => by have := (hblk _ h).1; omega)
          have HR6 : Hid (w5.there w.heap.size 0 8) := fun j hj => ⟨by rw [hb5.cell (p := ⟨w.heap.size, 0 + j, none⟩) (Nat.lt_succ_self _)]; exact (HR5.out j hj).1, (hb5.frozen (p := ⟨w.heap.size, 0 + j, none⟩) (Nat.lt_succ_self _)).trans (HR5.out j hj).2⟩
          have hb6 : Below w.heap.size (w4.alloc (Obj.cells #[.int .i64 z] 2)) w5 := hb5.mono (by omega)
          have HE6 := Lib.hid (HE5.out.below (hb6.mono hBw))
          have HT6 := Lib.hid (HT5.out.below (hb6.mono hBw))
          have HB6 := Lib.hid (HB5.out.trans hb6)
          have HF6 : Hid (∀ j, j < q + 1 → fitsAt ws j = true) := fun j hj => by
            rcases Nat.lt_succ_iff_lt_or_eq.1 hj with h | rfl
            · exact hF.out j h
            · exact hok
          have hs6 : w.heap.size < w5.heap.size := by have := hk5.size; omega
          clear ho5 hk5 hv5 hblk hb5 hb6 HO5 HR5 HE5 HT5 HB5
          go_wp2_with fail
          go_roundw
          case rel => exact ⟨q + 1, by omega, by go_num, HO6, HF6, HR6, HE6, HT6, HB6, hs6⟩
          case measure => simp [intOf]; omega
      · have hbad : rv = .tuple #[opV 0 0 0 0 0 0 0 0, ev p 18] := HBad.out q hqn (by simpa using hok)
        have hq1 : q ≠ 1 := fun h => hok (by rw [HFit.out, h]; rfl)
        have hne1 : ((q : Int) != 1) = true := by simp; omega
        have hbq : bq = false := by
          have h := HFit.out
          rw [Bool.eq_false_iff.2 hok] at h
          simpa [hq1] using h.symm
        subst hbq
        go_wp2_with fail
        have hg := HE4.out.cell 18 (by decide)
        change w4.cell? ⟨5, 0, none⟩ = some (ev p 18) at hg
        have hgl0 : 5 < w.heap.size := Nat.lt_of_lt_of_le (HE4.out.lt 18 (by decide)).1 hBw
        have hne : ¬ 5 = w.heap.size := by omega
        have hR := HR4.out
        have HB := HB4.out
        have hgl : 5 < w4.drew.heap.size := Nat.lt_of_lt_of_le hgl0 HB.size
        have hs : w.heap.size < w4.heap.size := hs4
        clear HE4 HR4 HB4
        refine wp_region_held_drew (S := (fun w1 => w1.cell? ⟨5, 0, none⟩ = some (ev p 18))) (by kernel_rfl) hg (fun hHeld => ?_)
        refine wpAnyH_take (i := 0) (v := (.agg #[.int .i64 0, .int .i64 0, .int .i64 0, .int .i64 0, .int .i64 0, .int .i64 0, .int .i64 0, .int .i64 0])) rfl (by kernel_rfl) (by kernel_rfl) (by kernel_rfl) (fun _ _ _ h => h) (Or.inl ⟨by rfl, fun w hSw => by (go_simp)⟩) hHeld ?_
        (try simp only [Act.put, List.getElem_toArray, List.getElem_cons_succ, List.getElem_cons_zero, List.setIfInBounds_toArray, List.set_cons_zero, List.set_cons_succ])
        refine wpAnyH_take (i := 1) (v := (ev p 18)) rfl (by kernel_rfl) (by kernel_rfl) (by kernel_rfl) (fun _ _ _ h => h) (Or.inl ⟨by rfl, fun w hSw => by (have hSw2 := hSw; go_simp)⟩) hHeld ?_
        (try simp only [Act.put, List.getElem_toArray, List.getElem_cons_succ, List.getElem_cons_zero, List.setIfInBounds_toArray, List.set_cons_zero, List.set_cons_succ])
        refine wpAnyH_ready (rs := [2]) (by kernel_rfl) (by simp) ?_
        refine AllReadyH.cons rfl (fun K hK => ?_) AllReadyH.nil
        rw [if_pos (by kernel_rfl)]
        refine wp_store_mid 23 _ _ rfl w.heap.size 0 (#[.int .i64 0, .int .i64 0, .int .i64 0, .int .i64 0, .int .i64 0, .int .i64 0, .int .i64 0, .int .i64 0]) rfl rfl ((World.there_drew _ _ _ _).2 hR) (by kernel_rfl) (by simp [Value.oneCell']) ?_
        refine hK.out _ _ ?_ (fun hHeld2 => ?_)
        · exact (show _ from ((keep_setCells w4.drew w.heap.size _ 0).cell (x := ⟨5, 0, none⟩) hgl hne).trans hg)
        clear hHeld hK K
        have hHeld := hHeld2
        clear hHeld2
        (try simp only [Act.put, List.getElem_toArray, List.getElem_cons_succ, List.getElem_cons_zero, List.setIfInBounds_toArray, List.set_cons_zero, List.set_cons_succ])
        refine wpAnyH_take (i := 3) (v := (ev p 18)) rfl (by kernel_rfl) (by kernel_rfl) (by kernel_rfl) (fun _ _ _ h => h) (Or.inl ⟨by rfl, fun w hSw => by (go_simp)⟩) hHeld ?_
        (try simp only [Act.put, List.getElem_toArray, List.getElem_cons_succ, List.getElem_cons_zero, List.setIfInBounds_toArray, List.set_cons_zero, List.set_cons_succ])
        refine wpAnyH_done (by kernel_rfl) ?_ _
        obtain ⟨W2, hW2⟩ : ∃ W2, W2 = w4.drew.setCells w.heap.size 0 zero8 := ⟨_, rfl⟩
        have hB2 : Below w.heap.size w W2 := by rw [hW2]; exact HB.drew.trans ((keep_setCells w4.drew w.heap.size zero8 0).below (Nat.le_of_lt hs) (fun j hj e => by omega))
        have hc : W2.rangeAt w.heap.size 0 zero8 := by rw [hW2]; exact World.rangeAt_setCells_same _ _ _ _ ((World.there_drew _ _ _ _).2 hR)
        rw [← hW2]
        have c0 := hc 0 _ rfl; have c1 := hc 1 _ rfl; have c2 := hc 2 _ rfl; have c3 := hc 3 _ rfl; have c4 := hc 4 _ rfl; have c5 := hc 5 _ rfl; have c6 := hc 6 _ rfl; have c7 := hc 7 _ rfl
        clear hW2 hHeld hg hR hc
        go_wp2_with fail
        exact bodyPost_ret (v := .tuple #[opV 0 0 0 0 0 0 0 0, ev p 18]) (by simp [results, Tryz.results17, go_sem, c0, c1, c2, c3, c4, c5, c6, c7]) rfl ⟨congrArg Ending.returned hbad.symm, hB2⟩
    · obtain rfl : q = n := by omega
      have hFa := HGood.out hF.out
      have hOw := hO.out
      have hl0 : ((List.range q).map (numAt ws)).length = q := by simp
      obtain ⟨lb, capl, rfl, hlb1, hlb2, hlc, hcm, hcells, _⟩ := hOw.cells (by intro h; rw [h] at hl0; simp at hl0; omega)
      rw [hl0] at hlc
      have HLC : Hid (∀ j, j < q → wr.cell? ⟨lb, j, none⟩ = some (.int .i64 (numAt ws j))) := fun j hj => by
        have h := hcells j (by rw [hl0]; exact hj)
        rw [h]
        simp [List.getD, hj]
      clear hcells hOw HBad HGood hO hF HCell HSz
      rw [hl0] 
      clear hcm
      obtain ⟨i0, hi, hz0, hz1, hz2⟩ := info_parts infoI64P
      have HF0 : Hid (Arr (wr.alloc (.cells (madeCells #[.int .i64 0] 6) 2)) wr.heap.size 6 (fun j => .int .i64 (fAt ul (numAt ws) 0 j))) := arr_new wr _ _ 6 _ (by
        have e : (fun j => Value.int .i64 (fAt ul (numAt ws) 0 j)) = fun _ => Value.int .i64 0 := funext fun j => by rw [fAt_zero]
        rw [e]; exact made6)
      have hal : Below wr.heap.size wr (wr.alloc (.cells (madeCells #[.int .i64 0] 6) 2)) := (Below.refl _ _).alloc (Nat.le_refl _) _
      have HR5 := Lib.hid (World.there.below hR.out hsr hal)
      have HE5 := Lib.hid (hE.out.below (hal.mono hE.out.size))
      have HT5 := Lib.hid (hT.out.on hal)
      have HB5 := Lib.hid (bbase hB.out hal)
      have HL5 : Hid (∀ j, j < q → (wr.alloc (.cells (madeCells #[.int .i64 0] 6) 2)).cell? ⟨lb, j, none⟩ = some (.int .i64 (numAt ws j))) := fun j hj => (hal.cell (p := ⟨lb, j, none⟩) hlb2).trans (HLC.out j hj)
      have hs5 : wr.heap.size < (wr.alloc (.cells (madeCells #[.int .i64 0] 6) 2)).heap.size := by simp
      clear hR hE hT hB hal HLC
      go_wp2_with (at_make; refine wpList_make_row _ rfl _ _ 53 rfl 2 i0 (.int .i64 0) Tryz.underlying53 hi hz0 hz1 rfl _ _ 6 rfl rfl (by rw [hz2]; decide) (by decide) ?_)
      generalize wr.alloc (.cells (madeCells #[.int .i64 0] 6) 2) = W5 at *
      generalize wr.heap.size = fb at *
      refine (HU.out W5 HT5.out.op).mono ?_
      rintro e w6 ⟨rfl, hb⟩
      have HF6 := Lib.hid (HF0.out.below hs5 hb)
      have HR6 := Lib.hid (World.there.below HR5.out (by omega) hb)
      have HE6 := Lib.hid (HE5.out.below (hb.mono HE5.out.size))
      have HT6 := Lib.hid (HT5.out.on hb)
      have HB6 := Lib.hid (bbase HB5.out hb)
      have HL6 : Hid (∀ j, j < q → w6.cell? ⟨lb, j, none⟩ = some (.int .i64 (numAt ws j))) := fun j hj => (hb.cell (p := ⟨lb, j, none⟩) (show lb < W5.heap.size by omega)).trans (HL5.out j hj)
      have hs6 : fb < w6.heap.size := by have := hb.size; omega
      clear hb HF0 HR5 HE5 HT5 HB5 HL5 hs5 hi hz0 hz1 hz2 i0 W5
      have hal : Below w6.heap.size w6 (w6.alloc (Obj.stringIter u 0)) := (Below.refl _ _).alloc (Nat.le_refl _) _
      have HF7 := Lib.hid (HF6.out.below hs6 hal)
      have HR7 := Lib.hid (World.there.below HR6.out (by omega) hal)
      have HE7 := Lib.hid (HE6.out.below (hal.mono HE6.out.size))
      have HT7 := Lib.hid (HT6.out.on hal)
      have HB7 := Lib.hid (bbase HB6.out hal)
      have HL7 : Hid (∀ j, j < q → (w6.alloc (Obj.stringIter u 0)).cell? ⟨lb, j, none⟩ = some (.int .i64 (numAt ws j))) := fun j hj => (hal.cell (p := ⟨lb, j, none⟩) (show lb < w6.heap.size by omega)).trans (HL6.out j hj)
      have hit0 := w6.iter_heap u 0
      change (w6.alloc (Obj.stringIter u 0)).heap[w6.heap.size]? = _ at hit0
      have hw6i : w6.iter u 0 = w6.alloc (Obj.stringIter u 0) := rfl
      have hs7 : w6.heap.size < (w6.alloc (Obj.stringIter u 0)).heap.size := by simp
      generalize w6.alloc (Obj.stringIter u 0) = W7 at *
      clear hal HF6 HR6 HE6 HT6 HB6 HL6
      go_wp2_with fail
      clear hw6i
      generalize w6.heap.size = ib at *
      go_loopw [] (fun wr => ∃ q' : Nat, q' ≤ u.size ∧ wr.heap[ib]? = some (.stringIter u q') ∧ Hid (Arr wr fb 6 (fun j => .int .i64 (fAt ul (numAt ws) q' j))) ∧ Hid (∀ j, j < q → wr.cell? ⟨lb, j, none⟩ = some (.int .i64 (numAt ws j))) ∧ Hid (wr.there w.heap.size 0 8) ∧ Hid (Errs (List.range 21) B p wr) ∧ Hid (ParW B wr) ∧ Hid (Below w.heap.size w wr) ∧ ib < wr.heap.size) (fun wr => u.size - wr.iterPos ib)
      case atStart => exact ⟨0, by omega, hit0, HF7, HL7, HR7, HE7, HT7, HB7, hs7⟩
      case round =>
        obtain ⟨q', hq', hit, hA, hL, hR, hE, hT, hB, hsr⟩ := hrel
        clear hit0 HF7 HL7 HR7 HE7 HT7 HB7 hs7
        by_cases hqu : q' < u.size
        · obtain ⟨hc1, hc2, hc3⟩ := HLet.out _ (ba_mem u q' hqu)
          have hnx : ∀ ty, (Instr.next (.pointer (some ⟨ib, 0, none⟩)) true ty).run Tryz.prog wr = _ := fun ty => run_next_at hit ty hqu hc1
          have hget : ul.getD q' 0 = u[q']'hqu := by
            have hq2 : q' < u.data.toList.length := hqu
            rw [HUL.out, List.getD, List.getElem?_eq_getElem hq2]
            rfl
          have HSx : Hid (∀ j, j < 6 → fAt ul (numAt ws) (q' + 1) j = if j = letterIx (u[q']'hqu) then numAt ws (2 + q') else fAt ul (numAt ws) q' j) := fun j hj => by
            rw [← hget]; exact HSucc.out q' (by rw [HUL.out]; exact hqu) j hj
          clear hget
          have HPos : Hid (wr.iterPos ib = q') := by simp [Hid, World.iterPos, hit]
          generalize hce : u[q']'hqu = ch at hc1 hc2 hc3 hnx HSx
          clear hce
          have hib2 : Hid ((iterAt wr ib u (q' + 1)).heap[ib]? = some (.stringIter u (q' + 1))) := iterAt_heap hsr u (q' + 1)
          have hkp := iterAt_keep wr ib u (q' + 1)
          generalize iterAt wr ib u (q' + 1) = wi at hnx hib2 hkp
          have hwx : ib < wi.heap.size := by have := hkp.size; omega
          have hbi : Below ib wr wi := hkp.below (by omega) (fun j hj h => by omega)
          have HAi : Hid (Arr wi fb 6 (fun j => .int .i64 (fAt ul (numAt ws) q' j))) := hA.out.keep (by decide) hkp (by omega)
          have hx0 := (hbi.cell (p := ⟨lb, 2 + q', none⟩) (show lb < ib by omega)).trans (hL.out (2 + q') (by have := HLen.out; omega))
          have HLi : Hid (∀ j, j < q → wi.cell? ⟨lb, j, none⟩ = some (.int .i64 (numAt ws j))) := fun j hj => (hbi.cell (p := ⟨lb, j, none⟩) (show lb < ib by omega)).trans (hL.out j hj)
          have HRi : Hid (wi.there w.heap.size 0 8) := fun j hj => ⟨by rw [hbi.cell (p := ⟨w.heap.size, 0 + j, none⟩) (show w.heap.size < ib by omega)]; exact (hR.out j hj).1, (hbi.frozen (p := ⟨w.heap.size, 0 + j, none⟩) (show w.heap.size < ib by omega)).trans (hR.out j hj).2⟩
          have HEi := Lib.hid (hE.out.below (hbi.mono (by omega)))
          have HTi := Lib.hid (hT.out.below (hbi.mono (by omega)))
          have HBi := Lib.hid (hB.out.trans (hbi.mono (by omega)))
          clear hkp hE hT hB hbi hA hL hR hit hsr
          have HIB := Lib.hid (fun (w' : World) => indexByte_calls w' lettersB (ch.toNat : Int))
          rw [show ((ch.toNat : Int)).toNat.toUInt8 = ch by simp, hc3] at HIB
          unfold lettersB at HIB
          clear hc3
          generalize hcn : ch.toNat = cn at hc1 hnx HIB
          clear hcn
          have hwr : IntKind.u8.wrap (cn : Int) = cn := by
            have := Int.emod_eq_of_lt (a := (cn : Int)) (b := 256) (by omega) (by omega)
            first | simpa [IntKind.wrap] using this | (simp [IntKind.wrap, IntKind.signed, IntKind.bits, this])
          have hcnn : (0 : Int) ≤ (cn : Int) := by omega
          generalize letterIx ch = ix at hc2 HIB HSx
          generalize numAt ws (2 + q') = z at hx0 HSx
          have hf0 := HAi.out.cell ix hc2
          have hff := HAi.out.free ix hc2
          have hfl : ¬ fb = lb := by omega
          have HA2 : Hid (Arr (wi.drew.setCell ⟨fb, ix, none⟩ (.int .i64 z)) fb 6 (fun j => .int .i64 (fAt ul (numAt ws) (q' + 1) j))) := (Arr.set (show Arr wi.drew fb 6 _ from ⟨fun j hj => HAi.out.cell j hj, fun j hj => HAi.out.free j hj⟩) hc2 (.int .i64 z)).congr (fun j hj => by
            rw [HSx.out j hj]
            split <;> rfl)
          have HK2 := Lib.hid (keep_setCell wi.drew ⟨fb, ix, none⟩ (.int .i64 z))
          obtain ⟨m, hm⟩ : ∃ m, m = 2 + q' := ⟨_, rfl⟩
          have hmI : (2 + (q' : Int)) = (m : Int) := by omega
          have hbx : (m : Int) < (q : Int) := by have := HLen.out; omega
          have hb0 : (0 : Int) ≤ (m : Int) := by omega
          have hwm : IntKind.i64.wrap (m : Int) = m := IntWalk.i64_in _ (by omega)
          rw [← hm] at hx0
          clear hm
          have hix0 : (0 : Int) ≤ (ix : Int) := by omega
          have hix : (ix : Int) < 6 := by omega
          clear HSx hk16
          go_upto_region 19 with fail
          go_region_held3 (fun w1 => w1.cell? ⟨lb, m, none⟩ = some (.int .i64 z) ∧ w1.frozen? ⟨fb, ix, none⟩ = false)
            ((repeat' apply And.intro) <;> first | exact hx0 | exact hff | (rw [World.cell?_setCell_far _ _ _ _ hfl]; exact hx0) | (show (wi.setCell ⟨fb, ix, none⟩ (.int .i64 z)).cell? _ = _; rw [World.cell?_setCell_far _ _ _ _ hfl]; exact hx0) | (rw [frozen_setCell]; exact hff) | (simp [*]; done))
            (first | (go_at_call 33; refine (HIB.out _).mono ?_; rintro e _ ⟨rfl, rfl⟩))
          have hne1 : ∀ y, y < wi.heap.size → y ≠ fb → ∀ o, ((wi.setCell ⟨fb, ix, none⟩ (.int .i64 z)).drew).cell? ⟨y, o, none⟩ = wi.cell? ⟨y, o, none⟩ := fun y hy hn o => HK2.out.cell (x := ⟨y, o, none⟩) hy hn
          have HIT2 : ((wi.setCell ⟨fb, ix, none⟩ (.int .i64 z)).drew).heap[ib]? = some (.stringIter u (q' + 1)) := (HK2.out.block ib hwx (by omega)).trans hib2.out
          have HL2 : Hid (∀ j, j < q → ((wi.setCell ⟨fb, ix, none⟩ (.int .i64 z)).drew).cell? ⟨lb, j, none⟩ = some (.int .i64 (numAt ws j))) := fun j hj => (hne1 lb (by omega) (by omega) j).trans (HLi.out j hj)
          have hb2 : Below fb wi ((wi.setCell ⟨fb, ix, none⟩ (.int .i64 z)).drew) := Below.drew (Below.setCell (Below.refl fb wi) (show fb ≤ fb from Nat.le_refl _) _)
          have HR2 : Hid (((wi.setCell ⟨fb, ix, none⟩ (.int .i64 z)).drew).there w.heap.size 0 8) := fun j hj => ⟨by rw [hb2.cell (p := ⟨w.heap.size, 0 + j, none⟩) (show w.heap.size < fb by omega)]; exact (HRi.out j hj).1, (hb2.frozen (p := ⟨w.heap.size, 0 + j, none⟩) (show w.heap.size < fb by omega)).trans (HRi.out j hj).2⟩
          have HE2 := Lib.hid (HEi.out.below (hb2.mono (by omega)))
          have HT2 := Lib.hid (HTi.out.below (hb2.mono (by omega)))
          have HB2 := Lib.hid (HBi.out.trans (hb2.mono (by omega)))
          have HA3 : Hid (Arr ((wi.setCell ⟨fb, ix, none⟩ (.int .i64 z)).drew) fb 6 (fun j => .int .i64 (fAt ul (numAt ws) (q' + 1) j))) := ⟨fun j hj => HA2.out.cell j hj, fun j hj => HA2.out.free j hj⟩
          have hs2 : ib < ((wi.setCell ⟨fb, ix, none⟩ (.int .i64 z)).drew).heap.size := by have := hb2.size; omega
          generalize (wi.setCell ⟨fb, ix, none⟩ (.int .i64 z)).drew = W8 at *
          clear hb2 hne1 HA2 HK2 HRi HEi HTi HBi HLi HAi hib2 hf0 hff hx0
          go_wp2_with fail
          go_roundw
          case rel => exact ⟨q' + 1, by omega, HIT2, HA3, HL2, HR2, HE2, HT2, HB2, hs2⟩
          case measure => rw [HPos.out, show W8.iterPos ib = q' + 1 by simp [World.iterPos, HIT2]]; omega
        · have hqe : q' = ul.length := by rw [HUL.out]; exact (show q' = u.size by omega)
          have hnx : ∀ ty, (Instr.next (.pointer (some ⟨ib, 0, none⟩)) true ty).run Tryz.prog wr = _ := fun ty => run_next_stop hit ty hqu
          have h0 := hL.out 0 (by omega)
          have HM := Lib.hid (made_calls (w := wr) (numAt ws 0) (k : Int) fb 0 6 (fAt ul (numAt ws) q') (by omega) (fun j hj => by rw [Nat.zero_add]; exact hA.out.cell j hj))
          have hq0 : (0 : Int) < (q : Int) := by omega
          have hval := HVal.out
          rw [← hqe] at hval
          have HVal2 := Lib.hid hval
          have HFa := Lib.hid hFa
          have hfl := HFld.out
          rw [← hqe] at hfl
          simp only [hfl] at hFa
          clear hval hfl HVal HFld HSucc HLet HFa
          have HFa := Lib.hid hFa
          clear hFa
          go_wp2_with fail
          refine HM.out.mono ?_
          rintro e w9 ⟨rfl, hb⟩
          have HR9 := Lib.hid (World.there.below hR.out (by omega) hb)
          have HE9 := Lib.hid (hE.out.below (hb.mono hE.out.size))
          have HT9 := Lib.hid (hT.out.on hb)
          have HB9 := Lib.hid (bbase hB.out hb)
          have hs9 : w.heap.size < w9.heap.size := by have := hb.size; omega
          clear hb hA hL hR hE hT hB hnx hit h0 HM
          generalize numAt ws 0 = y0 at *
          generalize fAt ul (numAt ws) q' = fF at *
          generalize fF 0 = y1 at *
          generalize fF 1 = y2 at *
          generalize fF 2 = y3 at *
          generalize fF 3 = y4 at *
          generalize fF 4 = y5 at *
          generalize fF 5 = y6 at *
          go_wp2_with fail
          have hal : Below w9.heap.size w9 (w9.alloc (Obj.cells #[.int .i64 y0, .int .i64 k, .int .i64 y1, .int .i64 y2, .int .i64 y3, .int .i64 y4, .int .i64 y5, .int .i64 y6] 23)) := (Below.refl _ _).alloc (Nat.le_refl _) _
          have HO10 := Lib.hid (opAt_new w9 y0 k y1 y2 y3 y4 y5 y6 23)
          have HR10 := Lib.hid (World.there.below HR9.out hs9 hal)
          have HB10 := Lib.hid (bbase HB9.out hal)
          have HVc := valid_calls (HE9.out.below (hal.mono HE9.out.size)) (HT9.out.on hal).op y0 k y1 y2 y3 y4 y5 y6
          have hs10 : w9.heap.size < (w9.alloc (Obj.cells #[.int .i64 y0, .int .i64 k, .int .i64 y1, .int .i64 y2, .int .i64 y3, .int .i64 y4, .int .i64 y5, .int .i64 y6] 23)).heap.size := by simp
          generalize w9.alloc (Obj.cells #[.int .i64 y0, .int .i64 k, .int .i64 y1, .int .i64 y2, .int .i64 y3, .int .i64 y4, .int .i64 y5, .int .i64 y6] 23) = W10 at *
          rw [HVal2.out] at HFa
          generalize validC y0 k y1 y2 y3 y4 y5 y6 = vc at *
          refine HVc.mono ?_
          rintro e w11 ⟨rfl, hb⟩
          have HO11 := HO10.out.below hb
          have HR11 := Lib.hid (World.there.below HR10.out (by omega) hb)
          have HB11 := Lib.hid (bbase HB10.out hb)
          have hs11 : w9.heap.size < w11.heap.size := by have := hb.size; omega
          have hnz : ¬ w9.heap.size = w.heap.size := by omega
          clear hb hal HO10 HR10 HB10 HVc HR9 HE9 HT9 HB9 hs10 HVal2 HU
          by_cases hv : vc = 0
          · subst hv
            have hrv : rv = .tuple #[opV y0 k y1 y2 y3 y4 y5 y6, .nilIface] := HFa.out
            have c0 := HO11.c0; have c1 := HO11.c1; have c2 := HO11.c2; have c3 := HO11.c3; have c4 := HO11.c4; have c5 := HO11.c5; have c6 := HO11.c6; have c7 := HO11.c7
            rw [show valV p 0 = .nilIface from rfl]
            go_wp2_with (refine wpList_store_mid rfl 23 _ _ rfl w.heap.size 0 #[.int .i64 y0, .int .i64 k, .int .i64 y1, .int .i64 y2, .int .i64 y3, .int .i64 y4, .int .i64 y5, .int .i64 y6] rfl rfl HR11.out (by kernel_rfl) (by simp [Value.oneCell']) ?_)
            have hthere := HR11.out
            have hB2 : Below w.heap.size w (w11.setCells w.heap.size 0 [.int .i64 y0, .int .i64 k, .int .i64 y1, .int .i64 y2, .int .i64 y3, .int .i64 y4, .int .i64 y5, .int .i64 y6]) := HB11.out.trans ((keep_setCells w11 w.heap.size _ 0).below (by omega) (fun j hj e => by omega))
            have hc : (w11.setCells w.heap.size 0 [.int .i64 y0, .int .i64 k, .int .i64 y1, .int .i64 y2, .int .i64 y3, .int .i64 y4, .int .i64 y5, .int .i64 y6]).rangeAt w.heap.size 0 [.int .i64 y0, .int .i64 k, .int .i64 y1, .int .i64 y2, .int .i64 y3, .int .i64 y4, .int .i64 y5, .int .i64 y6] := World.rangeAt_setCells_same _ _ _ _ hthere
            generalize w11.setCells w.heap.size 0 [.int .i64 y0, .int .i64 k, .int .i64 y1, .int .i64 y2, .int .i64 y3, .int .i64 y4, .int .i64 y5, .int .i64 y6] = W2 at *
            have r0 := hc 0 _ rfl; have r1 := hc 1 _ rfl; have r2 := hc 2 _ rfl; have r3 := hc 3 _ rfl; have r4 := hc 4 _ rfl; have r5 := hc 5 _ rfl; have r6 := hc 6 _ rfl; have r7 := hc 7 _ rfl
            exact bodyPost_ret (v := .tuple #[opV y0 k y1 y2 y3 y4 y5 y6, .nilIface]) (by simp [results, Tryz.results17, go_sem, r0, r1, r2, r3, r4, r5, r6, r7]) rfl ⟨congrArg Ending.returned hrv.symm, hB2⟩
          · obtain ⟨ad, had⟩ := valV_ne (p := p) hv
            have hrv := HFa.out
            rw [if_neg hv, had] at hrv
            rw [had]
            clear HFa had
            go_wp2_with (refine wpList_store_mid rfl 23 _ _ rfl w.heap.size 0 #[.int .i64 0, .int .i64 0, .int .i64 0, .int .i64 0, .int .i64 0, .int .i64 0, .int .i64 0, .int .i64 0] rfl rfl HR11.out (by kernel_rfl) (by simp [Value.oneCell']) ?_)
            have hthere := HR11.out
            have hB2 : Below w.heap.size w (w11.setCells w.heap.size 0 [.int .i64 0, .int .i64 0, .int .i64 0, .int .i64 0, .int .i64 0, .int .i64 0, .int .i64 0, .int .i64 0]) := HB11.out.trans ((keep_setCells w11 w.heap.size _ 0).below (by omega) (fun j hj e => by omega))
            have hc : (w11.setCells w.heap.size 0 [.int .i64 0, .int .i64 0, .int .i64 0, .int .i64 0, .int .i64 0, .int .i64 0, .int .i64 0, .int .i64 0]).rangeAt w.heap.size 0 [.int .i64 0, .int .i64 0, .int .i64 0, .int .i64 0, .int .i64 0, .int .i64 0, .int .i64 0, .int .i64 0] := World.rangeAt_setCells_same _ _ _ _ hthere
            generalize w11.setCells w.heap.size 0 [.int .i64 0, .int .i64 0, .int .i64 0, .int .i64 0, .int .i64 0, .int .i64 0, .int .i64 0, .int .i64 0] = W2 at *
            have r0 := hc 0 _ rfl; have r1 := hc 1 _ rfl; have r2 := hc 2 _ rfl; have r3 := hc 3 _ rfl; have r4 := hc 4 _ rfl; have r5 := hc 5 _ rfl; have r6 := hc 6 _ rfl; have r7 := hc 7 _ rfl
            exact bodyPost_ret (v := .tuple #[opV 0 0 0 0 0 0 0 0, .iface 146 (.pointer (some ad))]) (by simp [results, Tryz.results17, go_sem, r0, r1, r2, r3, r4, r5, r6, r7]) rfl ⟨congrArg Ending.returned hrv.symm, hB2⟩
/-- op.Parse at any words. -/
theorem parse_calls {B : Nat} {p : Nat → Addr} {w : World} (hE : Errs (List.range 21) B p w) (hT : ParW B w) (a : Option Addr) (cap : Nat) (ws : List ByteArray) (hR : SRow w a ws) (hsz : ∀ j, j < ws.length → (ws.getD j ⟨#[]⟩).size ≤ 281474976710656) (hn2 : ws.length ≤ 140737488355328) :
    Calls Tryz.prog 17 #[.slice a ws.length cap] w fun e w' => e = .returned (.tuple #[parseO ws, errN p (parseC ws)]) ∧ Below w.heap.size w w' := by
  have bad : parseC ws = 118 → (Value.tuple #[parseO ws, errN p (parseC ws)]) = .tuple #[opV 0 0 0 0 0 0 0 0, ev p 17] := fun h => by
    unfold parseO; rw [h]; rfl
  by_cases h2 : ws.length < 2
  · rw [bad (by unfold parseC; rw [if_pos h2])]
    exact parse_few hE a cap ws.length h2
  · by_cases hk : kindW ws = 0
    · rw [bad (by unfold parseC; rw [if_neg h2, if_pos hk])]
      exact parse_kind hE hT a cap ws hR (by omega) hn2 (.inl hk)
    · by_cases hl : ws.length = 2 + (usesL (kindW ws)).length
      · exact parse_rest hE hT a cap ws hR hsz hk hl
      · rw [bad (by unfold parseC; rw [if_neg h2, if_neg hk, if_pos hl])]
        exact parse_kind hE hT a cap ws hR (by omega) hn2 (.inr hl)
end Go.Proofs.YtchbkceconlbkaaGreatDoor
