/- (*disk.Disk).Crash: with what the picks say of what was pending. -/
import Derived.Test.YtehacchacgfjlaaDoorDiskC
import Derived.Test.YtehacchacgfjlaaDoorConcat
import Derived.Test.YtehacchacgfjlaaDoorSortedB
namespace Go.Proofs.YtehacchacgfjlaaDoor
open Go.Maps
open Go Go.RowKit
set_option linter.unusedSimpArgs false
set_option linter.unusedVariables false

/-- The sectors that are pending, by their numbers. -/
def keysS (P : SecL) : List Int := (P.map (·.1)).mergeSort leI
theorem keysS_mem {P : SecL} {k : Int} (h : k ∈ keysS P) : ∃ x ∈ P, x.1 = k := by
  have := (List.mergeSort_perm (P.map (·.1)) leI).subset h
  obtain ⟨x, hx, rfl⟩ := List.mem_map.1 this
  exact ⟨x, hx, rfl⟩
def memF (w : World) (F P F' : SecL) : Prop := ∀ x ∈ F', x ∈ F ∨ x ∈ P ∨ ∀ g, x.2.1.ownBlock = some g → w.heap.size ≤ g
theorem mget_some_of_key {P : SecL} {k : Int} (h : ∃ x ∈ P, x.1 = k) : ∃ v bs, mget P k = some (v, bs) ∧ (k, (v, bs)) ∈ P := by
  cases hg : mget P k with
  | some x => exact ⟨x.1, x.2, rfl, mget_mem hg⟩
  | none =>
    obtain ⟨x, hx, rfl⟩ := h
    exact absurd rfl (mget_none.1 hg x hx)
/-- What a round of the fall does: the sector id of the number k. -/
theorem round_eq (P : SecL) (ids qs : List Int) (F F0 F' : SecL) (k : Nat) (h1 : k < ids.length) (h2 : k < qs.length)
    (hI : ∀ i, crashTo (secOf P) (ids.drop k) (qs.drop k) (secOf F) i = crashTo (secOf P) ids qs (secOf F0) i)
    (hF : ∀ j, secOf F' j = if j = ids.getD k 0 then tear (secOf P (ids.getD k 0)) (secOf F (ids.getD k 0)) (qs.getD k 0) else secOf F j) :
    ∀ i, crashTo (secOf P) (ids.drop (k + 1)) (qs.drop (k + 1)) (secOf F') i = crashTo (secOf P) ids qs (secOf F0) i := by
  intro i
  rw [← hI i, crashTo_step _ _ _ _ _ h1 h2]
  rw [show secOf F' = (fun j => if j = ids.getD k 0 then tear (secOf P (ids.getD k 0)) (secOf F (ids.getD k 0)) (qs.getD k 0) else secOf F j) from funext hF]
theorem cell_ne_map {w : World} {g o : Nat} {v : Value} {r : Nat} {m : SecL} (hc : w.cell? ⟨g, o, none⟩ = some v) (hm : SecMap w r m) : ¬ g = r := by
  rintro rfl
  rcases hm.map with ⟨h, _⟩ | ⟨b', h, hh⟩
  · cases h
  · cases h
    obtain ⟨es, clk, hb, _⟩ := hh
    simp [World.cell?, hb] at hc
section
variable {lo : Nat} {w w' : World} {d : Nat} {n : Int} {fb pb : Nat} {F P : SecL} {calls fuse : Int} {down : Bool}
set_option maxHeartbeats 4000000 in
set_option maxRecDepth 100000 in
theorem crash_calls (h : Dsk lo w d n fb pb F P calls fuse down) (hlo : lo ≤ w.heap.size) (hk : ∀ x ∈ P, (Lit.int .i64 x.1).wf = true) (hl : P.length ≤ 10000) {v : Value} {qs : List Int} (hv : RdK .i64 w v qs) (hq : ∀ q ∈ qs, -9223372036854775808 ≤ q ∧ q ≤ 9223372036854775807) :
    Calls Tryd.prog 24 #[.pointer (some ⟨d, 0, none⟩), v] w fun e w' => e = .returned (.tuple #[]) ∧ ∃ F' pb', Dsk lo w' d n fb pb' F' [] calls 0 false ∧ (∀ i, secOf F' i = crashTo (secOf P) (keysS P) qs (secOf F) i) ∧ memF w F P F' ∧ w.heap.size ≤ pb' ∧ Keep (fun x => x = d ∨ x = fb) w w' := by
  have hmm := @run_makeMap Tryd.prog
  obtain ⟨b0, hb0, hm0⟩ : ∃ b, some pb = some b ∧ MapAt Tryd.prog 3 i64V secV w b P := by
    rcases h.pe.map with ⟨h, _⟩ | h
    · cases h
    · exact h
  cases hb0
  have c2 := h.c2
  have HD := Lib.hid h
  have HM := Lib.hid hm0
  have HK := Lib.hid hk
  have HV := Lib.hid hv
  have HQ := Lib.hid hq
  obtain ⟨ap, cp, rfl, hqc, hqm⟩ := hv.len
  clear h hk hv hm0 hq
  unfold maxLen at hqm
  go_enter Tryd.func24, Tryd.ntmps24
  go_wp2_with fail
  refine (keys_callsB (some pb) w).mono ?_
  rintro e w1 ⟨rfl, rfl⟩
  go_wp2_with fail
  refine (sorted_callsB HM.out hl).mono ?_
  rintro e w2 ⟨vk, rfl, hO, hb⟩
  have hO' : OwnI 3 w.heap.size w2 vk (keysS P) := hO
  obtain ⟨ad, cap, rfl⟩ := hO'.len
  have HI : Hid (OwnI 3 w.heap.size w2 (.slice ad (keysS P).length cap) (keysS P)) := hO
  have HB2 := Lib.hid hb
  have hs2 := hb.size
  have HD2 := Lib.hid (HD.out.below hb)
  have HT : Hid (∀ k ∈ keysS P, ∃ x ∈ P, x.1 = k) := fun k hk' => keysS_mem hk'
  have HWf : Hid (∀ k ∈ keysS P, (Lit.int .i64 k).wf = true) := fun k hk' => by
    obtain ⟨x, hx, rfl⟩ := keysS_mem hk'
    exact HK.out x hx
  clear hO hO' hb c2
  generalize hids : keysS P = ids at HI HT HWf ⊢
  have HIds := Lib.hid hids
  clear hids
  go_wp2_with fail
  go_loopw [18] (fun i wq => ∃ (k : Nat) (Fk : SecL), k ≤ ids.length ∧ i = .int .i64 k ∧ Hid (Dsk lo wq d n fb pb Fk P calls fuse down) ∧ Hid (∀ i, crashTo (secOf P) (ids.drop k) (qs.drop k) (secOf Fk) i = crashTo (secOf P) ids qs (secOf F) i) ∧ Hid (memF w F P Fk) ∧ Hid (Keep (fun x => x = fb) w2 wq)) (fun i _ => ids.length - (intOf i).toNat)
  case atStart => exact ⟨0, F, Nat.zero_le _, rfl, HD2, fun i => rfl, fun x hx => .inl hx, Keep.refl _ _⟩
  case round =>
    obtain ⟨k, Fk, hkl, rfl, hD, hC, hM, hB⟩ := hrel
    by_cases hk1 : k < ids.length
    · obtain ⟨g, cap', hv, hg1, hg2, hg3, hg4, hg5, hg6⟩ := HI.out.cells (by intro e; rw [e] at hk1; simp at hk1)
      simp only [Value.slice.injEq, true_and] at hv
      obtain ⟨rfl, rfl⟩ := hv
      have hgf : ¬ g = fb := fun e => by have := hD.out.fl.map.lt fb rfl; have := HD.out.fl.map.lt fb rfl; omega
      have d0 := (hB.out.cell (x := ⟨g, k, none⟩) hg2 hgf).trans (hg5 k hk1)
      have hid : ids.getD k 0 ∈ ids := by simp [List.getD, hk1]
      clear hg5 hg6
      unfold maxLen at hg4
      by_cases hk2 : k < qs.length
      · obtain ⟨vi, bs, hg, hmem⟩ := mget_some_of_key (HT.out _ hid)
        obtain ⟨hr, hlen⟩ := hD.out.pe.rd _ hmem
        simp only at hr hlen
        have hlk := sec_look hD.out.pe (ids.getD k 0) (HWf.out _ hid)
        rw [hg] at hlk
        simp only [Option.map_some, Option.getD_some, secV] at hlk
        have c2 := hD.out.c2
        have HSP : Hid (secOf P (ids.getD k 0) = bs) := by unfold Hid secOf; rw [hg]; rfl
        have hvi : Hid (∀ g, vi.ownBlock = some g → g ≠ d) := fun g hg => hD.out.ap _ (.inr hmem) g hg
        have hqk : qs.getD k 0 ∈ qs := by simp [List.getD, hk2]
        have HQk := Lib.hid (HQ.out _ hqk)
        have HWk := Lib.hid (HWf.out _ hid)
        have HRd : Hid (∀ F', (∀ j, secOf F' j = if j = ids.getD k 0 then tear (secOf P (ids.getD k 0)) (secOf Fk (ids.getD k 0)) (qs.getD k 0) else secOf Fk j) → ∀ i, crashTo (secOf P) (ids.drop (k + 1)) (qs.drop (k + 1)) (secOf F') i = crashTo (secOf P) ids qs (secOf F) i) := fun F' hF' => round_eq P ids qs Fk F F' k hk1 hk2 hC.out hF'
        obtain ⟨gq, oq, cq, hvq, hq1, hq2, hq3, hq4⟩ : ∃ gq oq cq, Value.slice ap qs.length cp = .slice (some ⟨gq, oq, none⟩) qs.length cq ∧ qs.length ≤ cq ∧ cq ≤ maxLen ∧ gq < w.heap.size ∧ ∀ i, i < qs.length → w.cell? ⟨gq, oq + i, none⟩ = some (.int .i64 (qs.getD i 0)) := by
          rcases HV.out with ⟨h0, _⟩ | h
          · rw [h0] at hk2; simp at hk2
          · exact h
        simp only [Value.slice.injEq, true_and] at hvq
        obtain ⟨rfl, rfl⟩ := hvq
        have hqf : ¬ gq = fb := cell_ne_map (hq4 k hk2) HD.out.fl
        have d1 := (hB.out.cell (x := ⟨gq, oq + k, none⟩) (Nat.lt_of_lt_of_le hq3 hs2) hqf).trans ((HB2.out.cell (p := ⟨gq, oq + k, none⟩) hq3).trans (hq4 k hk2))
        have HR := Lib.hid hr
        have HLn := Lib.hid hlen
        have HMem := Lib.hid hmem
        clear hq4 hq2 hr hlen hg hmem hid hqk hC
        generalize ids.getD k 0 = id at d0 hlk HSP HWk HRd HMem
        generalize qs.getD k 0 = q at d1 HQk HRd
        obtain ⟨r, hr3⟩ : ∃ r, r = q % 3 := ⟨_, rfl⟩
        obtain ⟨t, ht3⟩ : ∃ t, t = q / 3 := ⟨_, rfl⟩
        have hq0 := HQk.out
        have hRest : ∀ W, Calls Tryd.prog 70 #[.int .i64 q, .int .i64 3] W fun e w' => e = .returned (.tuple #[.int .i64 r, .int .i64 t]) ∧ Below W.heap.size W w' := fun W => by
          rw [hr3, ht3]
          exact rest_calls q 3 (by decide) (by decide) hq0.1 hq0.2 W
        have HRest := Lib.hid hRest
        have HR3 := Lib.hid hr3
        have HT3 := Lib.hid ht3
        have hr0 : 0 ≤ r ∧ r < 3 := by omega
        have htb : -9223372036854775808 ≤ t ∧ t ≤ 9223372036854775807 := by omega
        clear hRest hr3 ht3 hq0
        have hdec : decide (qs.length ≤ k) = false := by simp; omega
        go_wp2_with fail
        clear hdec
        refine (HRest.out _).mono ?_
        rintro e w3 ⟨rfl, hb3⟩
        have HD3 := Lib.hid (hD.out.below hb3)
        have HR3' := Lib.hid (HR.out.below hb3)
        have HB3 : Hid (Keep (fun x => x = fb) w2 w3) := hB.out.trans (Keep.of_below hb3)
        have c1 := HD3.out.c1
        have hd3 := HD3.out.lt
        clear hb3 hD hB HR d0 d1 hlk c2
        by_cases h1 : r = 1
        · subst h1
          obtain ⟨w4, hst, hD4, hk4⟩ := HD3.out.putF id vi bs HWk.out HR3'.out HLn.out hvi.out
          have HD4 := Lib.hid hD4
          have HK4 := Lib.hid hk4
          clear hD4 hk4
          go_wp2_with fail
          go_roundw
          case rel =>
            refine ⟨k + 1, mput Fk id (vi, bs), by omega, by go_num, HD4.out, HRd.out _ fun j => ?_, fun x hx => ?_, HB3.out.trans HK4.out⟩
            · rw [secOf_mput, HSP.out]
              unfold tear
              rw [if_pos HR3.out.symm]
            · rcases mem_mput hx with rfl | hx
              · exact .inr (.inl HMem.out)
              · exact hM.out x hx
          case measure => simp [intOf]; omega
        · by_cases h2 : r = 2
          · subst h2
            obtain ⟨m, hm0⟩ : ∃ m : Nat, t % 129 = (m : Int) := ⟨(t % 129).toNat, by have := Int.emod_nonneg t (show (129 : Int) ≠ 0 by decide); omega⟩
            have hm : m ≤ 128 := by have := Int.emod_lt_of_pos t (show (0 : Int) < 129 by decide); omega
            obtain ⟨s, hs0⟩ : ∃ s, s = t / 129 := ⟨_, rfl⟩
            have hRest : ∀ W, Calls Tryd.prog 70 #[.int .i64 t, .int .i64 129] W fun e w' => e = .returned (.tuple #[.int .i64 (m : Int), .int .i64 s]) ∧ Below W.heap.size W w' := fun W => by
              rw [hs0, ← hm0]
              exact rest_calls t 129 (by decide) (by decide) htb.1 htb.2 W
            have HRest := Lib.hid hRest
            have HTear : Hid (tear (secOf P id) (secOf Fk id) q = bs.take m ++ (secOf Fk id).drop m) := by
              unfold Hid tear
              rw [HSP.out, ← HR3.out, ← HT3.out, hm0]
              rfl
            clear hRest hs0 hm0 h1
            go_wp2_with fail
            refine (HRest.out _).mono ?_
            rintro e w4 ⟨rfl, hb4'⟩
            have hb4 : Below w3.heap.size w3 w4.drew := Below.drew hb4'
            have HD4 := Lib.hid (HD3.out.below hb4)
            have HR4 := Lib.hid (HR3'.out.below hb4)
            have HB4 : Hid (Keep (fun x => x = fb) w2 w4.drew) := HB3.out.trans (Keep.of_below hb4)
            obtain ⟨a0, k0, hsl0, hR0⟩ := HR4.out.upto (m := m) (by rw [HLn.out]; exact hm)
            have HKa : w4.drew.cell? ⟨d, 1, none⟩ = some (.map (some fb)) ∧ d < w4.drew.heap.size := ⟨HD4.out.c1, HD4.out.lt⟩
            have HR0 := Lib.hid hR0
            clear hb4 hb4' hR0 HD3 HR3' HB3 c1 hd3 HR3 HT3 htb hr0
            go_wp2_with fail
            go_region_held3 (fun wq => wq.cell? ⟨d, 1, none⟩ = some (.map (some fb)) ∧ d < wq.heap.size)
              (first | exact HKe | exact HKd | exact HKc | exact HKb | exact HKa)
              (first
                | (go_at_call 72; refine (kept_calls HD4.out id HWk.out).mono ?_; rintro e w5 ⟨v5, rfl, hR5, hlen5, hb5⟩; have HD5 := Lib.hid (HD4.out.below hb5); obtain ⟨a5, k5, hsl5, hR5'⟩ := hR5.from (m := m) (by rw [hlen5]; exact hm); rw [hlen5] at hsl5 hR5'; have HKb : w5.cell? ⟨d, 1, none⟩ = some (.map (some fb)) ∧ d < w5.heap.size := ⟨HD5.out.c1, HD5.out.lt⟩; have hb6 : Below w5.heap.size w5 (w5.alloc (.cells #[.slice a0 m k0, .slice a5 (128 - m) k5] 30)) := (Below.refl _ _).alloc (Nat.le_refl _) _; have HD6 := Lib.hid (HD5.out.below hb6); have HKc : (w5.alloc (.cells #[.slice a0 m k0, .slice a5 (128 - m) k5] 30)).cell? ⟨d, 1, none⟩ = some (.map (some fb)) ∧ d < (w5.alloc (.cells #[.slice a0 m k0, .slice a5 (128 - m) k5] 30)).heap.size := ⟨HD6.out.c1, HD6.out.lt⟩; have HR5 := Lib.hid (hR5'.below hb6); have HR6 := Lib.hid ((HR0.out.below hb5).below hb6); have HB6 : Hid (Below w4.drew.heap.size w4.drew (w5.alloc (.cells #[.slice a0 m k0, .slice a5 (128 - m) k5] 30))) := hb5.trans (hb6.mono hb5.size); have HLk := Lib.hid hlen5; clear hR5 hR5' hb5 hb6 hlen5)
                | (go_at_call 71; have hlt : (bs.take m).length = m ∧ ((secOf Fk id).drop m).length = 128 - m := ⟨by rw [List.length_take, HLn.out]; omega, by rw [List.length_drop, HLk.out]⟩; have HLt := Lib.hid hlt; clear hlt; refine (concat2_calls (xs := bs.take m) (ys := (secOf Fk id).drop m) (g := w5.heap.size) (by go_simp) (by go_simp) HR6.out HR5.out (by rw [HLt.out.1, HLt.out.2]; omega) (by rw [HLt.out.1, HLt.out.2]; omega)).mono ?_; rintro e w7 ⟨v7, rfl, hO7, hb7⟩; have hl7 : (bs.take m ++ (secOf Fk id).drop m).length = 128 := by { rw [List.length_append, HLt.out.1, HLt.out.2]; omega }; have HL7 := Lib.hid hl7; clear hl7; have HD7 := Lib.hid (HD6.out.below hb7); have HB7 : Hid (Below w4.drew.heap.size w4.drew w7) := HB6.out.trans (hb7.mono HB6.out.size); have HO7 := Lib.hid hO7; have HKd : w7.cell? ⟨d, 1, none⟩ = some (.map (some fb)) ∧ d < w7.heap.size := ⟨HD7.out.c1, HD7.out.lt⟩; obtain ⟨w8, hst, hD8, hk8⟩ := HD7.out.putF id v7 _ HWk.out HO7.out.rd HL7.out (fun g hg e => by have h1 := (World.ownsRow.lt HO7.out g hg).1; have h2 := HKc.2; omega); have HKe : w8.cell? ⟨d, 1, none⟩ = some (.map (some fb)) ∧ d < w8.heap.size := ⟨hD8.c1, hD8.lt⟩; have HD8 := Lib.hid hD8; have HK8 := Lib.hid hk8; clear hO7 hb7 hD8 hk8))
            all_goals
              go_wp2_with fail
              go_roundw
              case rel =>
                refine ⟨k + 1, mput Fk id (v7, bs.take m ++ (secOf Fk id).drop m), by omega, by go_num, HD8.out, HRd.out _ fun j => ?_, fun x hx => ?_, (HB4.out.trans (Keep.of_below HB7.out)).trans HK8.out⟩
                · rw [secOf_mput, HTear.out]
                · rcases mem_mput hx with rfl | hx
                  · refine .inr (.inr fun g hg => ?_)
                    have h1 := (World.ownsRow.lt HO7.out g hg).1
                    have h2 := HB4.out.size
                    have h3 := HB6.out.size
                    omega
                  · exact hM.out x hx
              case measure => simp [intOf]; omega
          · have h0 : r = 0 := by omega
            subst h0
            clear h1 h2
            go_wp2_with fail
            go_roundw
            case rel =>
              refine ⟨k + 1, Fk, by omega, by go_num, HD3.out, HRd.out _ fun j => ?_, hM.out, HB3.out⟩
              rw [show tear (secOf P id) (secOf Fk id) q = secOf Fk id by unfold tear; rw [← HR3.out]; rfl]
              split
              · rename_i e; rw [e]
              · rfl
            case measure => simp [intOf]; omega
      · have hC' : Hid (∀ i, secOf Fk i = crashTo (secOf P) ids qs (secOf F) i) := fun i => by
          have := hC.out i
          rwa [List.drop_eq_nil_of_le (show qs.length ≤ k by omega), crashTo_nil] at this
        have hdec : decide (qs.length ≤ k) = true := by simp; omega
        have c2 := hD.out.c2
        have c4 := hD.out.c4
        have c5 := hD.out.c5
        have f2 := hD.out.free 2
        have f4 := hD.out.free 4
        have f5 := hD.out.free 5
        have hdl := hD.out.lt
        have hsb := hB.out.size
        clear hC
        go_wp2_with fail
        go_end0
        rw [HIds.out]
        refine ⟨rfl, Fk, wr.heap.size, (hD.out.reset (by omega)).1, hC'.out, hM.out, by omega, ?_⟩
        exact ((Keep.of_below HB2.out (S := fun x => x = d ∨ x = fb)).trans (hB.out.mono fun _ _ h => .inr h)).trans (hD.out.reset (by omega)).2
    · obtain rfl : k = ids.length := by omega
      have hC' : Hid (∀ i, secOf Fk i = crashTo (secOf P) ids qs (secOf F) i) := fun i => by
        have := hC.out i
        rwa [List.drop_length, crashTo_none] at this
      have c2 := hD.out.c2
      have c4 := hD.out.c4
      have c5 := hD.out.c5
      have f2 := hD.out.free 2
      have f4 := hD.out.free 4
      have f5 := hD.out.free 5
      have hdl := hD.out.lt
      have hsb := hB.out.size
      clear hC
      go_wp2_with fail
      go_end0
      rw [HIds.out]
      refine ⟨rfl, Fk, wr.heap.size, (hD.out.reset (by omega)).1, hC'.out, hM.out, by omega, ?_⟩
      exact ((Keep.of_below HB2.out (S := fun x => x = d ∨ x = fb)).trans (hB.out.mono fun _ _ h => .inr h)).trans (hD.out.reset (by omega)).2
end
end Go.Proofs.YtehacchacgfjlaaDoor
