/- The walk of pledgelaw5.DiskKeeps: it returns true, and writes nothing that was there. -/
import Derived.Test.YtehacchacgfjlaaDoorDiskE
namespace Go.Proofs.YtehacchacgfjlaaDoor
open Go.Maps
open Go Go.RowKit
set_option linter.unusedSimpArgs false
set_option linter.unusedVariables false

/-- k sectors are pending, of one byte each. -/
def penN (k : Nat) (b : Int) : PenL := (List.range k).map fun (j : Nat) => ((j : Int), List.replicate 128 b)
theorem penN_succ (k : Nat) (b : Int) : penN (k + 1) b = penN k b ++ [((k : Int), List.replicate 128 b)] := by simp [penN, List.range_succ]
theorem penN_get (k : Nat) (b : Int) (j : Int) : mget (penN k b) j = if 0 ≤ j ∧ j < k then some (List.replicate 128 b) else none := by
  induction k with
  | zero => rw [if_neg (by omega)]; rfl
  | succ k ih =>
    rw [penN_succ, mget_append, ih, mget_one]
    by_cases h1 : 0 ≤ j ∧ j < (k : Int)
    · rw [if_pos h1, if_pos (show 0 ≤ j ∧ j < ((k + 1 : Nat) : Int) by omega)]; rfl
    · rw [if_neg h1]
      by_cases h2 : (k : Int) = j
      · rw [if_pos h2, if_pos (show 0 ≤ j ∧ j < ((k + 1 : Nat) : Int) by omega)]; rfl
      · rw [if_neg h2, if_neg (show ¬ (0 ≤ j ∧ j < ((k + 1 : Nat) : Int)) by omega)]; rfl
theorem penN_put (k : Nat) (b : Int) : mput (penN k b) (k : Int) (List.replicate 128 b) = penN (k + 1) b := by
  unfold mput
  rw [penN_get, if_neg (show ¬ (0 ≤ (k : Int) ∧ (k : Int) < k) by omega), penN_succ]; rfl
theorem keys8 (b : Int) : keysA (penN 8 b) = [0, 1, 2, 3, 4, 5, 6, 7] := by
  have e : (penN 8 b).map (·.1) = [0, 1, 2, 3, 4, 5, 6, 7] := rfl
  unfold keysA
  rw [e]
  exact List.mergeSort_of_pairwise (by decide)
/-- What was flushed. -/
def keepF (a : Int) : Int → List Int := rdS zeroS (mput [] 0 (List.replicate 128 a))
theorem keepF_eq (a : Int) (j : Int) : keepF a j = List.replicate 128 (if j = 0 then a else 0) := by
  unfold keepF
  rw [rdS_put]
  split
  · rfl
  · rfl
theorem keep_at (a b : Int) (qs : List Int) (k : Nat) (hk : k < 8) :
    crashTo (rdS zeroS (penN 8 b)) (keysA (penN 8 b)) qs (keepF a) (k : Int) = if k < qs.length then tear (List.replicate 128 b) (keepF a k) (qs.getD k 0) else keepF a k := by
  rw [keys8]
  have h := crashTo_in (rdS zeroS (penN 8 b)) [0, 1, 2, 3, 4, 5, 6, 7] (by decide) qs (keepF a) k hk
  have e : ([0, 1, 2, 3, 4, 5, 6, 7] : List Int).getD k 0 = (k : Int) := by
    match k, hk with
    | 0, _ => rfl
    | 1, _ => rfl
    | 2, _ => rfl
    | 3, _ => rfl
    | 4, _ => rfl
    | 5, _ => rfl
    | 6, _ => rfl
    | 7, _ => rfl
  rw [e] at h
  rw [h]
  have e2 : rdS zeroS (penN 8 b) (k : Int) = List.replicate 128 b := by
    unfold rdS
    rw [penN_get, if_pos (by omega)]; rfl
  rw [e2]
theorem tear_0 (p f : List Int) (q : Int) (h : q % 3 = 0) : tear p f q = f := by
  unfold tear; rw [h]; rfl
theorem tear_1 (p f : List Int) (q : Int) (h : q % 3 = 1) : tear p f q = p := by
  unfold tear; rw [h]; rfl
set_option maxHeartbeats 8000000 in
set_option maxRecDepth 100000 in
theorem walk_DiskKeeps {ks : List Nat} {p : Nat → Addr} {w : World} (hE : Errs ks w.heap.size p w) (a b : Int) (pk : Option Addr) (len cap : Nat) (zs : List Int) (_ : 0 ≤ a) (_ : a ≤ 255) (_ : 0 ≤ b) (_ : b ≤ 255) (hrow : IsRow .i64 w pk len cap zs) :
    Calls Tryd.prog 6 #[.int .u8 a, .int .u8 b, .slice pk len cap] w fun e w' => e = .returned (.bool true) ∧ Below w.heap.size w w' := by
  clear hE
  have HROW := Lib.hid hrow
  clear hrow
  go_enter Tryd.func6, Tryd.ntmps6
  have HB : Hid (Below w.heap.size w w) := Below.refl _ _
  go_wp2_with fail
  refine (first5_calls _).mono ?_
  rintro e w1 ⟨rfl, hb⟩
  replace HB := Lib.hid (HB.out.trans (hb.mono HB.out.size))
  clear hb
  by_cases hlen : 16 < len
  · go_wp2_with fail
    go_ret
    exact ⟨rfl, HB.out⟩
  have hs1 := HB.out.size
  have HQ : Hid (∃ qs, RdK .i64 w (.slice pk len cap) qs ∧ qs.length = len ∧ (∀ z ∈ qs, -9223372036854775808 ≤ z ∧ z ≤ 9223372036854775807)) := by
    refine ⟨zs.take len, HROW.out.rdK, ?_, fun z hz => ?_⟩
    · rcases HROW.out with ⟨_, h0, _⟩ | ⟨x, _, h1, _, h3, _⟩
      · rw [h0]; rfl
      · rw [List.length_take]; omega
    · rcases HROW.out with ⟨_, _, _, h0⟩ | ⟨x, _, _, _, _, _, h5⟩
      · rw [h0] at hz; simp at hz
      · exact bounds_i64 (h5 z (List.mem_of_mem_take hz))
  obtain ⟨qs, hq1, hq2, hq3⟩ := HQ.out
  subst hq2
  have HRQ := Lib.hid hq1
  have HQB := Lib.hid hq3
  clear hq1 hq3 HQ HROW
  go_wp2_with fail
  refine (da_new 8 (by decide) (by decide) w1).mono ?_
  rintro e w2 ⟨rfl, hD, hb⟩
  have HD := Lib.hid hD
  have hlt := hD.lt
  replace HB := Lib.hid (HB.out.trans (hb.mono HB.out.size))
  clear hD hb
  go_wp2_with fail
  refine (whole_calls a _).mono ?_
  rintro e w3 ⟨rfl, hR, hb⟩
  have HR := Lib.hid (rowIs_rd hR)
  replace HB := Lib.hid (HB.out.trans (hb.mono HB.out.size))
  replace HD := Lib.hid (HD.out.below hb)
  have hltw := HD.out.lt
  clear hR hb
  go_wp2_with fail
  refine (da_write HD.out (by decide) (by decide) rfl 0 (by decide) (by decide) (by decide) HR.out (by simp) (by intro g hg; simp only [Value.ownBlock, Option.some.injEq] at hg; omega)).mono ?_
  rintro e w4 ⟨rfl, hD, hk⟩
  replace HB := Lib.hid (HB.out.trans ((HD.out.out hk (by have := HD.out.low; have := HD.out.lt; omega) (fun z hz => hz.elim .inl (fun h => .inr (.inr h)))).mono hs1))
  replace HD := Lib.hid hD
  clear hD hk
  clear HR
  go_wp2_with fail
  refine (da_flush HD.out (by decide) (by decide) rfl (by decide) (by have := HD.out.lt; omega)).mono ?_
  rintro e w5 ⟨rfl, pb4, hD, hp4, hk⟩
  replace hD : DA w1.heap.size w5 (w1.heap.size + 2) w1.heap.size pb4 8 (keepF a) [] (0 + 1 + 1) 0 false := hD
  replace HB := Lib.hid (HB.out.trans ((HD.out.out hk (by have := HD.out.low; have := HD.out.lt; omega) (fun z hz => hz.elim .inl (fun h => .inr (.inl h)))).mono hs1))
  replace HD := Lib.hid hD
  clear hD hk
  have hlt4 := HD.out.lt
  go_wp2_with fail
  have HP0 : Hid (penN 0 b = []) := rfl
  go_loopw [10] (fun i wq => ∃ k : Nat, k ≤ 8 ∧ i = .int .i64 k ∧ Hid (DA w1.heap.size wq (w1.heap.size + 2) w1.heap.size pb4 8 (keepF a) (penN k b) (2 + k) 0 false) ∧ Hid (Below w.heap.size w wq)) (fun i _ => 8 - (intOf i).toNat)
  case atStart => exact ⟨0, by decide, rfl, HD, HB⟩
  case round =>
    obtain ⟨k, hk8, rfl, HDk, HBk⟩ := hrel
    have hltk := HDk.out.lt
    clear HD HB
    have HD := HDk
    have HB := HBk
    clear HDk HBk
    by_cases hkl : k < 8
    · skip
      go_wp2_with fail
      refine (whole_calls b _).mono ?_
      rintro e w6 ⟨rfl, hR, hb⟩
      have HR := Lib.hid (rowIs_rd hR)
      replace HB := Lib.hid (HB.out.trans (hb.mono HB.out.size))
      replace HD := Lib.hid (HD.out.below hb)
      have hltw := HD.out.lt
      clear hR hb
      go_wp2_with fail
      refine (da_write HD.out (by decide) (by decide) rfl (k : Int) (by omega) (by omega) (by omega) HR.out (by simp) (by intro g hg; simp only [Value.ownBlock, Option.some.injEq] at hg; omega)).mono ?_
      rintro e w7 ⟨rfl, hD, hk⟩
      rw [penN_put, show goneF 0 false = 0 from rfl, show (2 + (k : Int) + 1) = 2 + ((k + 1 : Nat) : Int) by omega] at hD
      replace HB := Lib.hid (HB.out.trans ((HD.out.out hk (by have := HD.out.low; have := HD.out.lt; omega) (fun z hz => hz.elim .inl (fun h => .inr (.inr h)))).mono hs1))
      replace HD := Lib.hid hD
      clear hD hk
      clear HR
      go_wp2_with fail
      go_roundw
      case rel => exact ⟨k + 1, by omega, by go_num, HD, HB⟩
      case measure => simp [intOf]; omega
    · obtain rfl : k = 8 := by omega
      have hlow := HD.out.low
      go_wp2_with fail
      refine (da_clone HD.out).mono ?_
      rintro e w8 ⟨rfl, hC, hb⟩
      have HC := Lib.hid hC
      have hwr' := HD.out.low
      have hwr : w1.heap.size + 2 < wr.heap.size ∧ w1.heap.size < wr.heap.size ∧ pb4 < wr.heap.size := hltk
      have hbs := hb.size
      replace HB := Lib.hid (HB.out.trans (hb.mono HB.out.size))
      replace HD := Lib.hid (HD.out.below hb)
      obtain ⟨cb, hcb⟩ : ∃ cb, cb = wr.heap.size := ⟨_, rfl⟩
      rw [← hcb] at HC hwr ⊢
      have hbase2 : w.heap.size ≤ cb := by omega
      clear hC hb hbs hcb
      have hcl := HC.out.lt
      go_wp2_with fail
      refine (da_crash HC.out (by decide) (by omega) (rdK_nil .i64 _) (by intro z hz; cases hz)).mono ?_
      rintro e w9 ⟨rfl, pb6, hD, hp6, hk⟩
      rw [crashTo_nil] at hD
      replace HD := Lib.hid (HD.out.apart HC.out hk (fun z hz => hz.elim .inl (fun h => .inr (.inl h))) ⟨by omega, by omega, by omega⟩ ⟨by omega, by omega, by omega⟩ ⟨by omega, by omega, by omega⟩)
      replace HB := Lib.hid (HB.out.trans ((HC.out.out hk (by have := HC.out.low; have := HC.out.lt; omega) (fun z hz => hz.elim .inl (fun h => .inr (.inl h)))).mono hbase2))
      replace HC := Lib.hid hD
      clear hD hk
      have hRk := HRQ.out.below HB.out
      have hdl := HD.out.lt
      go_wp2_with fail
      refine (da_crash HD.out (by decide) (by have := HD.out.lt; omega) hRk HQB.out).mono ?_
      rintro e w10 ⟨rfl, pb7, hD, hp7, hk⟩
      replace HC := Lib.hid (HC.out.apart HD.out hk (fun z hz => hz.elim .inl (fun h => .inr (.inl h))) ⟨by omega, by omega, by omega⟩ ⟨by omega, by omega, by omega⟩ ⟨by omega, by omega, by omega⟩)
      replace HB := Lib.hid (HB.out.trans ((HD.out.out hk (by have := HD.out.low; have := HD.out.lt; omega) (fun z hz => hz.elim .inl (fun h => .inr (.inl h)))).mono hs1))
      replace HD := Lib.hid hD
      clear hD hk
      clear hRk
      have hdl8 := HD.out.lt
      have hcl8 := HC.out.lt
      have HKA : Hid (∀ k : Nat, k < 8 → crashTo (rdS zeroS (penN 8 b)) (keysA (penN 8 b)) qs (keepF a) (k : Int) = if k < qs.length then tear (List.replicate 128 b) (keepF a k) (qs.getD k 0) else keepF a k) := fun k hk => keep_at a b qs k hk
      generalize crashTo (rdS zeroS (penN 8 b)) (keysA (penN 8 b)) qs (keepF a) = fE at HD HKA
      go_wp2_with fail
      go_loopw [12] (fun i wq => ∃ k : Nat, k ≤ 8 ∧ i = .int .i64 k ∧ Hid (DA w1.heap.size wq (w1.heap.size + 2) w1.heap.size pb7 8 fE [] (2 + (8 : Nat)) 0 false) ∧ Hid (DA cb wq cb (cb + 1) pb6 8 (keepF a) [] (2 + (8 : Nat)) 0 false) ∧ Hid (Below w.heap.size w wq)) (fun i _ => 8 - (intOf i).toNat)
      case atStart => exact ⟨0, by decide, rfl, HD, HC, HB⟩
      case round =>
        clear HD HC HB
        obtain ⟨k, hk8, rfl, HD, HC, HB⟩ := hrel
        by_cases hkl : k < 8
        · obtain ⟨ws, hws⟩ : ∃ ws : Int, ws = if (k : Int) = 0 then a else 0 := ⟨_, rfl⟩
          have HW : Hid (keepF a (k : Int) = List.replicate 128 ws) := by unfold Hid; rw [keepF_eq, hws]
          have HKk := Lib.hid (HKA.out k hkl)
          by_cases hk0 : k = 0
          · subst hk0
            rw [if_pos (by decide)] at hws
            subst hws
            replace HW : Hid (keepF ws 0 = List.replicate 128 ws) := HW.out
            replace HKk : Hid (fE 0 = if 0 < qs.length then tear (List.replicate 128 b) (keepF ws 0) (qs.getD 0 0) else keepF ws 0) := HKk.out
            go_wp2_with fail
            refine (da_read HD.out (by decide) 0 (by omega) (by omega)).mono ?_
            rintro e wa ⟨va, rfl, hO, hb⟩
            rw [rdS_nil] at hO
            have HLa := Lib.hid hO.rd
            obtain ⟨aa, ca, rfl⟩ := hO.len
            replace HB := Lib.hid (HB.out.trans (hb.mono HB.out.size))
            replace HD := Lib.hid (HD.out.below hb)
            replace HC := Lib.hid (HC.out.below hb)
            have HE : Hid ((fE 0).length = 128) := (HD.out.len _).1
            rw [HE.out]
            clear hO hb
            go_wp2_with fail
            refine (da_read HC.out (by decide) 0 (by omega) (by omega)).mono ?_
            rintro e wb ⟨vb, rfl, hO, hb⟩
            rw [rdS_nil, HW.out] at hO
            have HLb := Lib.hid hO.rd
            obtain ⟨ab, cb', rfl⟩ := hO.len
            replace HB := Lib.hid (HB.out.trans (hb.mono HB.out.size))
            replace HD := Lib.hid (HD.out.below hb)
            replace HC := Lib.hid (HC.out.below hb)
            replace HLa := Lib.hid (HLa.out.below hb)
            clear hO hb
            rw [List.length_replicate]
            go_wp2_with fail
            refine (whole_calls ws _).mono ?_
            rintro e wc ⟨rfl, hR, hb⟩
            have HRc := Lib.hid (rowIs_rd hR)
            replace HB := Lib.hid (HB.out.trans (hb.mono HB.out.size))
            replace HD := Lib.hid (HD.out.below hb)
            replace HC := Lib.hid (HC.out.below hb)
            replace HLa := Lib.hid (HLa.out.below hb)
            replace HLb := Lib.hid (HLb.out.below hb)
            clear hR hb
            go_wp2_with fail
            refine (sameBytes_calls (by have := HLb.out; rwa [List.length_replicate] at this) HRc.out (by simp)).mono ?_
            rintro e wd ⟨rfl, hb⟩
            replace HB := Lib.hid (HB.out.trans (hb.mono HB.out.size))
            replace HD := Lib.hid (HD.out.below hb)
            replace HC := Lib.hid (HC.out.below hb)
            replace HLa := Lib.hid (HLa.out.below hb)
            clear hb HLb HRc
            by_cases hkq : 0 < qs.length
            · have hRd := HRQ.out.below HB.out
              obtain ⟨gq, oq, cq, hvq, hq1, hq2, hq3, hq4⟩ : ∃ gq oq cq, Value.slice pk qs.length cap = .slice (some ⟨gq, oq, none⟩) qs.length cq ∧ qs.length ≤ cq ∧ cq ≤ maxLen ∧ gq < wd.heap.size ∧ ∀ i, i < qs.length → wd.cell? ⟨gq, oq + i, none⟩ = some (.int .i64 (qs.getD i 0)) := by
                rcases hRd with ⟨h0, _⟩ | h
                · rw [h0] at hkq; simp at hkq
                · exact h
              simp only [Value.slice.injEq, true_and] at hvq
              obtain ⟨rfl, rfl⟩ := hvq
              have d1 := hq4 _ hkq
              have HKq : Hid (fE 0 = tear (List.replicate 128 b) (List.replicate 128 ws) (qs.getD 0 0)) := by have := HKk.out; rw [if_pos hkq, HW.out] at this; exact this
              generalize qs.getD 0 0 = q at d1 HKq
              unfold maxLen at hq2
              replace d1 : wd.cell? ⟨gq, oq, none⟩ = some (.int .i64 q) := d1
              clear hq4 hRd HKk
              go_wp2_with fail
              refine (number_calls q 3 (by decide) (by decide) _).mono ?_
              rintro e we ⟨rfl, rfl⟩
              have hr0 := Int.emod_nonneg q (show (3 : Int) ≠ 0 by decide)
              have hr1 := Int.emod_lt_of_pos q (show (0 : Int) < 3 by decide)
              obtain ⟨r, hr⟩ : ∃ r, q % 3 = r := ⟨_, rfl⟩
              rw [hr] at hr0 hr1 ⊢
              have HR := Lib.hid hr
              clear hr d1
              by_cases h0 : r = 0
              · subst h0
                have HEq : Hid (fE 0 = List.replicate 128 ws) := by unfold Hid; rw [HKq.out]; exact tear_0 _ _ _ HR.out
                go_wp2_with fail
                refine (whole_calls ws _).mono ?_
                rintro e wf ⟨rfl, hR, hb⟩
                have HRf := Lib.hid (rowIs_rd hR)
                replace HB := Lib.hid (HB.out.trans (hb.mono HB.out.size))
                replace HD := Lib.hid (HD.out.below hb)
                replace HC := Lib.hid (HC.out.below hb)
                replace HLa := Lib.hid (HLa.out.below hb)
                clear hR hb
                go_wp2_with fail
                refine (sameBytes_calls (by have := HLa.out; rw [HEq.out, List.length_replicate] at this; exact this) HRf.out (by simp)).mono ?_
                rintro e wg ⟨rfl, hb⟩
                replace HB := Lib.hid (HB.out.trans (hb.mono HB.out.size))
                replace HD := Lib.hid (HD.out.below hb)
                replace HC := Lib.hid (HC.out.below hb)
                clear hb HLa HRf
                go_wp2_with fail
                go_roundw
                case rel => exact ⟨1, by omega, by go_num, HD, HC, HB⟩
                case measure => simp [intOf] <;> omega
              · by_cases h1 : r = 1
                · subst h1
                  have HEq : Hid (fE 0 = List.replicate 128 b) := by unfold Hid; rw [HKq.out]; exact tear_1 _ _ _ HR.out
                  go_wp2_with fail
                  refine (whole_calls b _).mono ?_
                  rintro e wf ⟨rfl, hR, hb⟩
                  have HRf := Lib.hid (rowIs_rd hR)
                  replace HB := Lib.hid (HB.out.trans (hb.mono HB.out.size))
                  replace HD := Lib.hid (HD.out.below hb)
                  replace HC := Lib.hid (HC.out.below hb)
                  replace HLa := Lib.hid (HLa.out.below hb)
                  clear hR hb
                  go_wp2_with fail
                  refine (sameBytes_calls (by have := HLa.out; rw [HEq.out, List.length_replicate] at this; exact this) HRf.out (by simp)).mono ?_
                  rintro e wg ⟨rfl, hb⟩
                  replace HB := Lib.hid (HB.out.trans (hb.mono HB.out.size))
                  replace HD := Lib.hid (HD.out.below hb)
                  replace HC := Lib.hid (HC.out.below hb)
                  clear hb HLa HRf
                  go_wp2_with fail
                  go_roundw
                  case rel => exact ⟨1, by omega, by go_num, HD, HC, HB⟩
                  case measure => simp [intOf] <;> omega
                · obtain rfl : r = 2 := by omega
                  go_wp2_with fail
                  go_roundw
                  case rel => exact ⟨1, by omega, by go_num, HD, HC, HB⟩
                  case measure => simp [intOf] <;> omega
            · have HEq : Hid (fE 0 = List.replicate 128 ws) := by have := HKk.out; rw [if_neg hkq, HW.out] at this; exact this
              have hdq : decide (0 < qs.length) = false := decide_eq_false hkq
              have hdq2 : decide ((0 : Int) < (qs.length : Int)) = false := decide_eq_false (by omega)
              go_wp2_with fail
              refine (whole_calls ws _).mono ?_
              rintro e wf ⟨rfl, hR, hb⟩
              have HRf := Lib.hid (rowIs_rd hR)
              replace HB := Lib.hid (HB.out.trans (hb.mono HB.out.size))
              replace HD := Lib.hid (HD.out.below hb)
              replace HC := Lib.hid (HC.out.below hb)
              replace HLa := Lib.hid (HLa.out.below hb)
              clear hR hb
              go_wp2_with fail
              refine (sameBytes_calls (by have := HLa.out; rw [HEq.out, List.length_replicate] at this; exact this) HRf.out (by simp)).mono ?_
              rintro e wg ⟨rfl, hb⟩
              replace HB := Lib.hid (HB.out.trans (hb.mono HB.out.size))
              replace HD := Lib.hid (HD.out.below hb)
              replace HC := Lib.hid (HC.out.below hb)
              clear hb HLa HRf
              go_wp2_with fail
              go_roundw
              case rel => exact ⟨1, by omega, by go_num, HD, HC, HB⟩
              case measure => simp [intOf] <;> omega
          · have hz : ((k : Int) == 0) = false := by simp; omega
            rw [if_neg (by omega)] at hws
            subst hws
            go_wp2_with fail
            refine (da_read HD.out (by decide) (k : Int) (by omega) (by omega)).mono ?_
            rintro e wa ⟨va, rfl, hO, hb⟩
            rw [rdS_nil] at hO
            have HLa := Lib.hid hO.rd
            obtain ⟨aa, ca, rfl⟩ := hO.len
            replace HB := Lib.hid (HB.out.trans (hb.mono HB.out.size))
            replace HD := Lib.hid (HD.out.below hb)
            replace HC := Lib.hid (HC.out.below hb)
            have HE : Hid ((fE (k : Int)).length = 128) := (HD.out.len _).1
            rw [HE.out]
            clear hO hb
            go_wp2_with fail
            refine (da_read HC.out (by decide) (k : Int) (by omega) (by omega)).mono ?_
            rintro e wb ⟨vb, rfl, hO, hb⟩
            rw [rdS_nil, HW.out] at hO
            have HLb := Lib.hid hO.rd
            obtain ⟨ab, cb', rfl⟩ := hO.len
            replace HB := Lib.hid (HB.out.trans (hb.mono HB.out.size))
            replace HD := Lib.hid (HD.out.below hb)
            replace HC := Lib.hid (HC.out.below hb)
            replace HLa := Lib.hid (HLa.out.below hb)
            clear hO hb
            rw [List.length_replicate]
            go_wp2_with fail
            refine (whole_calls 0 _).mono ?_
            rintro e wc ⟨rfl, hR, hb⟩
            have HRc := Lib.hid (rowIs_rd hR)
            replace HB := Lib.hid (HB.out.trans (hb.mono HB.out.size))
            replace HD := Lib.hid (HD.out.below hb)
            replace HC := Lib.hid (HC.out.below hb)
            replace HLa := Lib.hid (HLa.out.below hb)
            replace HLb := Lib.hid (HLb.out.below hb)
            clear hR hb
            go_wp2_with fail
            refine (sameBytes_calls (by have := HLb.out; rwa [List.length_replicate] at this) HRc.out (by simp)).mono ?_
            rintro e wd ⟨rfl, hb⟩
            replace HB := Lib.hid (HB.out.trans (hb.mono HB.out.size))
            replace HD := Lib.hid (HD.out.below hb)
            replace HC := Lib.hid (HC.out.below hb)
            replace HLa := Lib.hid (HLa.out.below hb)
            clear hb HLb HRc
            by_cases hkq : k < qs.length
            · have hRd := HRQ.out.below HB.out
              obtain ⟨gq, oq, cq, hvq, hq1, hq2, hq3, hq4⟩ : ∃ gq oq cq, Value.slice pk qs.length cap = .slice (some ⟨gq, oq, none⟩) qs.length cq ∧ qs.length ≤ cq ∧ cq ≤ maxLen ∧ gq < wd.heap.size ∧ ∀ i, i < qs.length → wd.cell? ⟨gq, oq + i, none⟩ = some (.int .i64 (qs.getD i 0)) := by
                rcases hRd with ⟨h0, _⟩ | h
                · rw [h0] at hkq; simp at hkq
                · exact h
              simp only [Value.slice.injEq, true_and] at hvq
              obtain ⟨rfl, rfl⟩ := hvq
              have d1 := hq4 _ hkq
              have HKq : Hid (fE (k : Int) = tear (List.replicate 128 b) (List.replicate 128 0) (qs.getD k 0)) := by have := HKk.out; rw [if_pos hkq, HW.out] at this; exact this
              generalize qs.getD k 0 = q at d1 HKq
              unfold maxLen at hq2
              skip
              clear hq4 hRd HKk
              go_wp2_with fail
              refine (number_calls q 3 (by decide) (by decide) _).mono ?_
              rintro e we ⟨rfl, rfl⟩
              have hr0 := Int.emod_nonneg q (show (3 : Int) ≠ 0 by decide)
              have hr1 := Int.emod_lt_of_pos q (show (0 : Int) < 3 by decide)
              obtain ⟨r, hr⟩ : ∃ r, q % 3 = r := ⟨_, rfl⟩
              rw [hr] at hr0 hr1 ⊢
              have HR := Lib.hid hr
              clear hr d1
              by_cases h0 : r = 0
              · subst h0
                have HEq : Hid (fE (k : Int) = List.replicate 128 0) := by unfold Hid; rw [HKq.out]; exact tear_0 _ _ _ HR.out
                go_wp2_with fail
                refine (whole_calls 0 _).mono ?_
                rintro e wf ⟨rfl, hR, hb⟩
                have HRf := Lib.hid (rowIs_rd hR)
                replace HB := Lib.hid (HB.out.trans (hb.mono HB.out.size))
                replace HD := Lib.hid (HD.out.below hb)
                replace HC := Lib.hid (HC.out.below hb)
                replace HLa := Lib.hid (HLa.out.below hb)
                clear hR hb
                go_wp2_with fail
                refine (sameBytes_calls (by have := HLa.out; rw [HEq.out, List.length_replicate] at this; exact this) HRf.out (by simp)).mono ?_
                rintro e wg ⟨rfl, hb⟩
                replace HB := Lib.hid (HB.out.trans (hb.mono HB.out.size))
                replace HD := Lib.hid (HD.out.below hb)
                replace HC := Lib.hid (HC.out.below hb)
                clear hb HLa HRf
                go_wp2_with fail
                go_roundw
                case rel => exact ⟨k + 1, by omega, by go_num, HD, HC, HB⟩
                case measure => simp [intOf] <;> omega
              · by_cases h1 : r = 1
                · subst h1
                  have HEq : Hid (fE (k : Int) = List.replicate 128 b) := by unfold Hid; rw [HKq.out]; exact tear_1 _ _ _ HR.out
                  go_wp2_with fail
                  refine (whole_calls b _).mono ?_
                  rintro e wf ⟨rfl, hR, hb⟩
                  have HRf := Lib.hid (rowIs_rd hR)
                  replace HB := Lib.hid (HB.out.trans (hb.mono HB.out.size))
                  replace HD := Lib.hid (HD.out.below hb)
                  replace HC := Lib.hid (HC.out.below hb)
                  replace HLa := Lib.hid (HLa.out.below hb)
                  clear hR hb
                  go_wp2_with fail
                  refine (sameBytes_calls (by have := HLa.out; rw [HEq.out, List.length_replicate] at this; exact this) HRf.out (by simp)).mono ?_
                  rintro e wg ⟨rfl, hb⟩
                  replace HB := Lib.hid (HB.out.trans (hb.mono HB.out.size))
                  replace HD := Lib.hid (HD.out.below hb)
                  replace HC := Lib.hid (HC.out.below hb)
                  clear hb HLa HRf
                  go_wp2_with fail
                  go_roundw
                  case rel => exact ⟨k + 1, by omega, by go_num, HD, HC, HB⟩
                  case measure => simp [intOf] <;> omega
                · obtain rfl : r = 2 := by omega
                  go_wp2_with fail
                  go_roundw
                  case rel => exact ⟨k + 1, by omega, by go_num, HD, HC, HB⟩
                  case measure => simp [intOf] <;> omega
            · have HEq : Hid (fE (k : Int) = List.replicate 128 0) := by have := HKk.out; rw [if_neg hkq, HW.out] at this; exact this
              have hdq : decide (k < qs.length) = false := decide_eq_false hkq
              skip
              go_wp2_with fail
              refine (whole_calls 0 _).mono ?_
              rintro e wf ⟨rfl, hR, hb⟩
              have HRf := Lib.hid (rowIs_rd hR)
              replace HB := Lib.hid (HB.out.trans (hb.mono HB.out.size))
              replace HD := Lib.hid (HD.out.below hb)
              replace HC := Lib.hid (HC.out.below hb)
              replace HLa := Lib.hid (HLa.out.below hb)
              clear hR hb
              go_wp2_with fail
              refine (sameBytes_calls (by have := HLa.out; rw [HEq.out, List.length_replicate] at this; exact this) HRf.out (by simp)).mono ?_
              rintro e wg ⟨rfl, hb⟩
              replace HB := Lib.hid (HB.out.trans (hb.mono HB.out.size))
              replace HD := Lib.hid (HD.out.below hb)
              replace HC := Lib.hid (HC.out.below hb)
              clear hb HLa HRf
              go_wp2_with fail
              go_roundw
              case rel => exact ⟨k + 1, by omega, by go_num, HD, HC, HB⟩
              case measure => simp [intOf] <;> omega
        · obtain rfl : k = 8 := by omega
          go_wp2_with fail
          go_ret
          exact ⟨rfl, HB.out⟩
end Go.Proofs.YtehacchacgfjlaaDoor
