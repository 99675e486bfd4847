/- (*pledgeref10.Caps).Sum of a line that may not be; pledgelaw16.other. -/
import Derived.Test.YtkdmedmlbglgmaaDoorCapsRefSum
import Derived.Test.YtkdmedmlbglgmaaDoorLines
import Derived.Deep.RegionLaw
namespace Go.Proofs.YtkdmedmlbglgmaaDoor
open Go.Maps
open Go Go.RowKit
set_option linter.unusedSimpArgs false
set_option linter.unusedVariables false

set_option maxHeartbeats 4000000 in
set_option maxRecDepth 100000 in
theorem capsRefSum_bad {w : World} (pt : Value) {v : Value} {L : List (G × Int)} (hL : LinesAt w v L) {n : Nat} {y : G × Int} (hy : L[n]? = some y) (hbad : fitsL y = false) (hf : ∀ j x, j < n → L[j]? = some x → fitsL x = true) :
    Calls Tryd.prog 15 #[pt, v] w fun e w' => e = .returned (.tuple #[.int .i64 0, faultV 103 true n]) ∧ Below w.heap.size w w' := by
  obtain ⟨W0, hW0⟩ : ∃ W0, W0 = w.alloc (.cells #[.int .i64 0, .bool false, .int .i64 0] 50) := ⟨_, rfl⟩
  have hb0 : Below w.heap.size w W0 := by rw [hW0]; exact (Below.refl _ w).alloc (Nat.le_refl _) _
  have HL : Hid (LinesAt W0 v L) := hL.below hb0
  have HF := Lib.hid hf
  have HB0 := Lib.hid hb0
  have HZ : Hid (W0.heap.size = w.heap.size + 1 ∧ W0.cell? ⟨w.heap.size, 0, none⟩ = some (.int .i64 0) ∧ W0.cell? ⟨w.heap.size, 1, none⟩ = some (.bool false) ∧ W0.cell? ⟨w.heap.size, 2, none⟩ = some (.int .i64 0) ∧ W0.frozen? ⟨w.heap.size, 0, none⟩ = false ∧ W0.frozen? ⟨w.heap.size, 1, none⟩ = false ∧ W0.frozen? ⟨w.heap.size, 2, none⟩ = false) := by
    rw [hW0]; exact ⟨by simp, by go_simp, by go_simp, by go_simp, by go_simp, by go_simp, by go_simp⟩
  obtain ⟨a, cap, rfl, hcap, hmx, hcells⟩ := HL.out
  have HC := Lib.hid hcells
  have hnl : n < L.length := (List.getElem?_eq_some_iff.1 hy).1
  unfold maxLen at hmx
  clear hL hf hcells hb0
  go_enter Tryd.func15, Tryd.ntmps15
  go_wp2_with fail
  rw [← hW0]
  have HW0 := Lib.hid hW0
  clear hW0
  go_loop [6] (fun i => ∃ k : Nat, k ≤ n ∧ i = .int .i64 k) (fun i => L.length - (intOf i).toNat)
  case atStart => exact ⟨0, Nat.zero_le _, rfl⟩
  case round =>
    obtain ⟨k, hk, rfl⟩ := hrel
    have hkl : k < L.length := by omega
    obtain ⟨b, off, rfl, hb, hcell⟩ := HC.out.resolve_left (by intro e; rw [e] at hkl; simp at hkl)
    by_cases hkn : k < n
    · obtain ⟨y, hy'⟩ : ∃ y, L[k]? = some y := ⟨_, List.getElem?_eq_getElem hkl⟩
      obtain ⟨d0, d1, d2, d3⟩ := hcell k y hy'
      have hfy := HF.out k y hkn hy'
      obtain ⟨⟨y1, y2, y3⟩, y4⟩ := y
      simp only [fitsL, decide_eq_true_eq] at hfy
      simp only at d0 d1 d2 d3
      have f1 : decide (1 ≤ y1 ∧ y1 ≤ 6) = true := decide_eq_true hfy.1
      have f2 : decide (1 ≤ y2 ∧ y2 ≤ 6) = true := decide_eq_true hfy.2.1
      have f3 : decide (0 ≤ y3 ∧ y3 ≤ 32) = true := decide_eq_true hfy.2.2.1
      have f4 : isAmt y4 = true := decide_eq_true hfy.2.2.2
      clear hcell hfy hy'
      go_wp2_with fail
      refine (in10I_calls _ _ _ _).mono ?_
      rintro e _ ⟨rfl, rfl⟩
      rw [f1]
      go_wp2_with fail
      refine (in10I_calls _ _ _ _).mono ?_
      rintro e _ ⟨rfl, rfl⟩
      rw [f2]
      go_wp2_with fail
      refine (in10I_calls _ _ _ _).mono ?_
      rintro e _ ⟨rfl, rfl⟩
      rw [f3]
      go_wp2_with fail
      refine (amount10I_calls _ _).mono ?_
      rintro e _ ⟨rfl, rfl⟩
      rw [f4]
      go_wp2_with fail
      go_round
      case rel => exact ⟨k + 1, by omega, by go_num⟩
      case measure => simp [intOf]; omega
    · obtain rfl : k = n := by omega
      obtain ⟨d0, d1, d2, d3⟩ := hcell k y hy
      obtain ⟨⟨y1, y2, y3⟩, y4⟩ := y
      simp only [fitsL, decide_eq_false_iff_not] at hbad
      simp only at d0 d1 d2 d3
      obtain ⟨hz, z0, z1, z2, g0, g1, g2⟩ := HZ.out
      have hlt : w.heap.size < W0.heap.size := by omega
      have fin : ∀ (Z : Prop), Z → Z := fun _ z => z
      clear hcell hy fin
      by_cases c1 : 1 ≤ y1 ∧ y1 ≤ 6
      · have f1 : decide (1 ≤ y1 ∧ y1 ≤ 6) = true := decide_eq_true c1
        by_cases c2 : 1 ≤ y2 ∧ y2 ≤ 6
        · have f2 : decide (1 ≤ y2 ∧ y2 ≤ 6) = true := decide_eq_true c2
          by_cases c3 : 0 ≤ y3 ∧ y3 ≤ 32
          · have f3 : decide (0 ≤ y3 ∧ y3 ≤ 32) = true := decide_eq_true c3
            have f4 : isAmt y4 = false := decide_eq_false (by omega)
            clear hbad c1 c2 c3
            go_wp2_with fail
            refine (in10I_calls _ _ _ _).mono ?_
            rintro e _ ⟨rfl, rfl⟩
            rw [f1]
            go_wp2_with fail
            refine (in10I_calls _ _ _ _).mono ?_
            rintro e _ ⟨rfl, rfl⟩
            rw [f2]
            go_wp2_with fail
            refine (in10I_calls _ _ _ _).mono ?_
            rintro e _ ⟨rfl, rfl⟩
            rw [f3]
            go_wp2_with fail
            refine (amount10I_calls _ _).mono ?_
            rintro e _ ⟨rfl, rfl⟩
            rw [f4]
            go_wp2_with fail
            refine (placed_calls 103 _ (by decide) _).mono ?_
            rintro e w5 ⟨rfl, hb⟩
            obtain ⟨hc, hfz⟩ := bcell hb
            have hlt5 : w.heap.size < w5.heap.size := Nat.lt_of_lt_of_le hlt hb.size
            have HB5 := Lib.hid (HB0.out.trans (hb.mono HB0.out.size))
            clear hb
            go_wp2_with fail
            refine bodyPost_ret (v := .tuple #[.int .i64 0, faultV 103 true k]) (by simp [results, Tryd.results15, go_sem, hc, hlt, z0, z1, z2]) rfl ⟨rfl, ((HB5.out.setCell (p := ⟨w.heap.size, 0, none⟩) (Nat.le_refl _) _).setCell (p := ⟨w.heap.size, 1, none⟩) (Nat.le_refl _) _).setCell (p := ⟨w.heap.size, 2, none⟩) (Nat.le_refl _) _⟩
          · have f3 : decide (0 ≤ y3 ∧ y3 ≤ 32) = false := decide_eq_false c3
            clear hbad c1 c2 c3
            go_wp2_with fail
            refine (in10I_calls _ _ _ _).mono ?_
            rintro e _ ⟨rfl, rfl⟩
            rw [f1]
            go_wp2_with fail
            refine (in10I_calls _ _ _ _).mono ?_
            rintro e _ ⟨rfl, rfl⟩
            rw [f2]
            go_wp2_with fail
            refine (in10I_calls _ _ _ _).mono ?_
            rintro e _ ⟨rfl, rfl⟩
            rw [f3]
            go_wp2_with fail
            refine (placed_calls 103 _ (by decide) _).mono ?_
            rintro e w5 ⟨rfl, hb⟩
            obtain ⟨hc, hfz⟩ := bcell hb
            have hlt5 : w.heap.size < w5.heap.size := Nat.lt_of_lt_of_le hlt hb.size
            have HB5 := Lib.hid (HB0.out.trans (hb.mono HB0.out.size))
            clear hb
            go_wp2_with fail
            refine bodyPost_ret (v := .tuple #[.int .i64 0, faultV 103 true k]) (by simp [results, Tryd.results15, go_sem, hc, hlt, z0, z1, z2]) rfl ⟨rfl, ((HB5.out.setCell (p := ⟨w.heap.size, 0, none⟩) (Nat.le_refl _) _).setCell (p := ⟨w.heap.size, 1, none⟩) (Nat.le_refl _) _).setCell (p := ⟨w.heap.size, 2, none⟩) (Nat.le_refl _) _⟩
        · have f2 : decide (1 ≤ y2 ∧ y2 ≤ 6) = false := decide_eq_false c2
          clear hbad c1 c2
          go_wp2_with fail
          refine (in10I_calls _ _ _ _).mono ?_
          rintro e _ ⟨rfl, rfl⟩
          rw [f1]
          go_wp2_with fail
          refine (in10I_calls _ _ _ _).mono ?_
          rintro e _ ⟨rfl, rfl⟩
          rw [f2]
          go_wp2_with fail
          refine (placed_calls 103 _ (by decide) _).mono ?_
          rintro e w5 ⟨rfl, hb⟩
          obtain ⟨hc, hfz⟩ := bcell hb
          have hlt5 : w.heap.size < w5.heap.size := Nat.lt_of_lt_of_le hlt hb.size
          have HB5 := Lib.hid (HB0.out.trans (hb.mono HB0.out.size))
          clear hb
          go_wp2_with fail
          refine bodyPost_ret (v := .tuple #[.int .i64 0, faultV 103 true k]) (by simp [results, Tryd.results15, go_sem, hc, hlt, z0, z1, z2]) rfl ⟨rfl, ((HB5.out.setCell (p := ⟨w.heap.size, 0, none⟩) (Nat.le_refl _) _).setCell (p := ⟨w.heap.size, 1, none⟩) (Nat.le_refl _) _).setCell (p := ⟨w.heap.size, 2, none⟩) (Nat.le_refl _) _⟩
      · have f1 : decide (1 ≤ y1 ∧ y1 ≤ 6) = false := decide_eq_false c1
        clear hbad c1
        go_wp2_with fail
        refine (in10I_calls _ _ _ _).mono ?_
        rintro e _ ⟨rfl, rfl⟩
        rw [f1]
        go_wp2_with fail
        refine (placed_calls 103 _ (by decide) _).mono ?_
        rintro e w5 ⟨rfl, hb⟩
        obtain ⟨hc, hfz⟩ := bcell hb
        have hlt5 : w.heap.size < w5.heap.size := Nat.lt_of_lt_of_le hlt hb.size
        have HB5 := Lib.hid (HB0.out.trans (hb.mono HB0.out.size))
        clear hb
        go_wp2_with fail
        refine bodyPost_ret (v := .tuple #[.int .i64 0, faultV 103 true k]) (by simp [results, Tryd.results15, go_sem, hc, hlt, z0, z1, z2]) rfl ⟨rfl, ((HB5.out.setCell (p := ⟨w.heap.size, 0, none⟩) (Nat.le_refl _) _).setCell (p := ⟨w.heap.size, 1, none⟩) (Nat.le_refl _) _).setCell (p := ⟨w.heap.size, 2, none⟩) (Nat.le_refl _) _⟩

theorem infoLineR : (Tryd.prog.info? 102).map (fun i => (i.zero, i.size, i.bytes)) = some (some (.agg #[.int .i64 0, .int .i64 0, .int .i64 0, .int .i64 0]), 4, 32) := by kernel_rfl
theorem cells_newL (w : World) (cs : Array Value) (E : TypeId) (j : Nat) (u : Value) (h : cs.toList[j]? = some u) : (w.alloc (.cells cs E)).drew.cell? ((⟨w.heap.size, 0, none⟩ : Addr).add j) = some u := by
  rw [World.cell?_drew, show (⟨w.heap.size, 0, none⟩ : Addr).add j = ⟨w.heap.size, j, none⟩ by cases j <;> simp [Addr.add]]
  simp only [World.cell?, World.alloc, Array.getElem?_push, if_true]
  simpa using h

set_option maxHeartbeats 4000000 in
set_option maxRecDepth 100000 in
theorem other_calls {w : World} {v : Value} {L : List (G × Int)} (hL : LinesAt w v L) (hl : L.length ≤ 1000) :
    Calls Tryd.prog 16 #[v] w fun e w' => Below w.heap.size w w' ∧ ∃ u, e = .returned u ∧ OwnL 102 w.heap.size w' u L := by
  obtain ⟨a, cap, rfl, hcap, hmx, hcells⟩ := hL
  have HC := Lib.hid hcells
  unfold maxLen at hmx
  clear hcells
  go_enter Tryd.func16, Tryd.ntmps16
  go_wp2_with fail
  go_loopw [4, 3] (fun i u wq => ∃ k : Nat, k ≤ L.length ∧ i = .int .i64 k ∧ Hid (OwnL 102 w.heap.size wq u (L.take k)) ∧ Hid (Below w.heap.size w wq)) (fun i _ _ => L.length - (intOf i).toNat)
  case atStart => exact ⟨0, Nat.zero_le _, rfl, OwnL.nil _ _ _, Below.refl _ _⟩
  case round =>
    obtain ⟨k, hk, rfl, hO, hB⟩ := hrel
    by_cases hkl : k < L.length
    · obtain ⟨b, off, rfl, hb, hcell⟩ := HC.out.resolve_left (by intro e; rw [e] at hkl; simp at hkl)
      obtain ⟨y, hy⟩ : ∃ y, L[k]? = some y := ⟨_, List.getElem?_eq_getElem hkl⟩
      obtain ⟨c0, c1, c2, c3⟩ := hcell k y hy
      have HM := Lib.hid (take_snocL hy)
      obtain ⟨⟨y1, y2, y3⟩, y4⟩ := y
      simp only at c0 c1 c2 c3
      have d0 := (hB.out.cell (p := ⟨b, off + k * 4, none⟩) hb).trans c0
      have d1 := (hB.out.cell (p := ⟨b, off + k * 4 + 1, none⟩) hb).trans c1
      have d2 := (hB.out.cell (p := ⟨b, off + k * 4 + 2, none⟩) hb).trans c2
      have d3 := (hB.out.cell (p := ⟨b, off + k * 4 + 3, none⟩) hb).trans c3
      obtain ⟨al, cl, hv⟩ := hO.out.len
      rw [show (L.take k).length = k by rw [List.length_take]; omega] at hv
      subst hv
      have hsr := hB.out.size
      have HOa : Hid (OwnL 102 w.heap.size (wr.alloc (.cells #[.int .i64 y1, .int .i64 y2, .int .i64 y3, .int .i64 y4] 102)).drew (.slice al k cl) (L.take k)) := (hO.out.alloc _).drew
      have HNa : Hid (∀ j u, (lineCells [((y1, y2, y3), y4)])[j]? = some u → (wr.alloc (.cells #[.int .i64 y1, .int .i64 y2, .int .i64 y3, .int .i64 y4] 102)).drew.cell? ((⟨wr.heap.size, 0, none⟩ : Addr).add j) = some u) := fun j u hj => cells_newL wr #[.int .i64 y1, .int .i64 y2, .int .i64 y3, .int .i64 y4] _ j u hj
      have HLk : Hid ((L.take k).length + [(((y1, y2, y3), y4) : G × Int)].length ≤ 1000000) := by unfold Hid; rw [List.length_take]; simp; omega
      have hsa : w.heap.size ≤ (wr.alloc (.cells #[.int .i64 y1, .int .i64 y2, .int .i64 y3, .int .i64 y4] 102)).drew.heap.size := by simp; omega
      have HBa : Hid (Below w.heap.size w (wr.alloc (.cells #[.int .i64 y1, .int .i64 y2, .int .i64 y3, .int .i64 y4] 102)).drew) := (hB.out.alloc hB.out.size _).drew
      have hbk := Lib.hid hO.out.block
      clear c0 c1 c2 c3 hcell hy hO
      go_wp2_with fail
      go_region_law (first | (go_loud (refine step_appL (by rfl) (.tmp 11) (.tmp 33) 53 (by rfl) 102 Tryd.underlying53 (by rfl) infoLineR w.heap.size (.slice al k cl) (L.take k) [((y1, y2, y3), y4)] (by rfl) HOa.out ⟨wr.heap.size, 0, none⟩ 1 1 (by rfl) (by rfl) HNa.out HLk.out hsa ?_); intro v5 w5 ho5 hk5; have HO5 := Lib.hid ho5; have HB5 := Lib.hid (HBa.out.trans (hk5.below hsa (fun j hj e => by have := (hbk.out j e).1; omega))); clear ho5 hk5))
      all_goals
        go_wp2_with fail
        go_roundw
        case rel => exact ⟨k + 1, by omega, by go_num, by rw [HM.out]; exact HO5, HB5⟩
        case measure => simp [intOf]; omega
    · obtain rfl : k = L.length := by omega
      rw [List.take_length] at hO
      go_wp2_with fail
      go_ret
      exact ⟨hB.out, _, rfl, hO.out⟩
end Go.Proofs.YtkdmedmlbglgmaaDoor
