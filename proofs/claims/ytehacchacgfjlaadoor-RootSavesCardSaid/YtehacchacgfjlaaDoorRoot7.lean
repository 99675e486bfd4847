/- pledgeref's Ints and Bytes (copies), SameInts at any two lists; pledgelaw6's made, same, first. -/
import Derived.Test.YtehacchacgfjlaaDoorRoot6
import Derived.OwnWalk
namespace Go.Proofs.YtehacchacgfjlaaDoor
open Go.Maps
open Go Go.RowKit
set_option linter.unusedSimpArgs false
set_option linter.unusedVariables false

/-- 'append(xs, n)' at a slice of the call's own, however long (the reach's bound). -/
theorem wpList_app1L {P : Program} {ops : Array Oper} {rest : List Oper} {o : Oper} {a : Act} {Q : Exit → Act → World → Prop} {w : World} (hgd : o.guard = none) (s x : Operand) (t : TypeId) (ho : o.op = .call { callee := .builtin .append, args := #[s, x], argTypes := #[t, t] })
    (E : TypeId) (ht : P.underlying t = some (.slice E)) (hinfo : (P.info? E).map (fun i => (i.zero, i.size, i.bytes)) = some (some (.int .i64 0), 1, 8))
    (base : Nat) (v : Value) (xs : List Int) (hs : a.eval s = v) (hown : OwnI E base w v xs) (g c : Nat) (n : Int) (hx : a.eval x = .slice (some ⟨g, 0, none⟩) 1 c) (hn : w.cell? ⟨g, 0, none⟩ = some (.int .i64 n))
    (hlen : (xs.length + 1) * 8 ≤ 140737488355328) (hbase : base ≤ w.heap.size)
    (h : ∀ v' w', OwnI E base w' v' (xs ++ [n]) → Below base w w' → wpList P ops Q rest (a.put o.dst v') w') : wpList P ops Q (o :: rest) a w := by
  obtain ⟨i0, hi, hz0, hz1, hz2⟩ := info_parts hinfo
  refine wpList_append_own w hgd s x t ho base E i0 (.int .i64 0) 1 8 ht hi hz0 hz1 hz2 rfl (by decide) v xs.length (xs.map i64V) hs hown ⟨g, 0, none⟩ 1 c [.int .i64 n] hx rfl ?_ (by simp [Value.oneCell']) (by unfold maxLen; omega) (by omega) hbase ?_
  · intro j u hj
    cases j with
    | zero => simp only [List.getElem?_cons_zero, Option.some.injEq] at hj; rw [← hj]; simpa [Addr.add] using hn
    | succ j => simp at hj
  · intro v' w' h1 h2 _
    refine h v' w' ?_ ?_
    · unfold OwnI
      rw [List.map_append, List.length_append]
      exact h1
    · refine (Below.refl base w).grown h2 hbase fun k hk => ?_
      rcases hown.2 with ⟨h3, _⟩ | ⟨g', cap, cur, h3, hb, _⟩
      · rw [h3] at hk; simp [Value.ownBlock] at hk
      · rw [h3] at hk; simp [Value.ownBlock] at hk; omega
set_option maxHeartbeats 2000000 in
set_option maxRecDepth 100000 in
theorem ints_calls {w : World} {v : Value} {xs : List Int} (hv : RdK .i64 w v xs) (hl : xs.length * 8 ≤ 140737488351232) :
    Calls Tryd.prog 76 #[v] w fun e w' => ∃ u, e = .returned u ∧ OwnI 3 w.heap.size w' u xs ∧ Below w.heap.size w w' := by
  obtain ⟨a, c, rfl, hlc, hcm⟩ := hv.len
  obtain ⟨i0, hi, hz0, hz1, hz2⟩ := info_parts infoIntR
  unfold maxLen at hcm
  have HV := Lib.hid hv
  clear hv
  go_enter Tryd.func76, Tryd.ntmps76
  go_wp2_with (at_make; refine wpList_make_own _ rfl _ _ 42 rfl w.heap.size 3 i0 (.int .i64 0) 1 Tryd.underlying42 hi hz0 hz1 _ _ _ xs.length rfl rfl rfl (by rw [hz2]; omega) (by unfold maxLen; omega) (Nat.le_refl _) ?_)
  intro w1 hO1 hg1
  have HO1 : Hid (OwnI 3 w.heap.size w1 (.slice (some ⟨w.heap.size, 0, none⟩) 0 xs.length) (xs.take 0)) := hO1
  have HB1 : Hid (Below w.heap.size w w1) := (Below.refl _ _).grown hg1 (Nat.le_refl _) (fun k hk => by cases hk)
  clear hO1 hg1
  go_wp2_with fail
  go_loopw [4, 3] (fun i u wq => ∃ k : Nat, k ≤ xs.length ∧ i = .int .i64 k ∧ Hid (OwnI 3 w.heap.size wq u (xs.take k)) ∧ Hid (Below w.heap.size w wq)) (fun i _ _ => xs.length - (intOf i).toNat)
  case atStart => exact ⟨0, Nat.zero_le _, rfl, HO1, HB1⟩
  case round =>
    obtain ⟨k, hk, rfl, hO, hB⟩ := hrel
    by_cases hkl : k < xs.length
    · rcases HV.out with ⟨h0, _⟩ | ⟨b, off, c1, hvv, _, _, hb, hcell⟩
      · rw [h0] at hkl; simp at hkl
      simp only [Value.slice.injEq, true_and] at hvv
      obtain ⟨rfl, rfl⟩ := hvv
      have d1 := (hB.out.cell (p := ⟨b, off + k, none⟩) hb).trans (hcell k hkl)
      have hs := hB.out.size
      have HT := Lib.hid (take_snocK hkl)
      have HTl : Hid (((xs.take k).length + 1) * 8 ≤ 140737488355328) := by unfold Hid; rw [List.length_take]; omega
      generalize xs.getD k 0 = x at d1 HT
      clear hcell
      go_wp2_with (at_builtin; refine wpList_app1L rfl _ _ 42 rfl 3 Tryd.underlying42 infoIntR w.heap.size _ (xs.take k) rfl (hO.out.alloc _) wr.heap.size 1 x rfl (cell_new wr _ _ 0) HTl.out (by simp; omega) ?_)
      intro v5 w5 hO5 hb5
      have HO5 : Hid (OwnI 3 w.heap.size w5 v5 (xs.take (k + 1))) := by unfold Hid; rw [HT.out]; exact hO5
      have HB5 : Hid (Below w.heap.size w w5) := Below.trans (show Below w.heap.size w (wr.alloc (.cells #[.int .i64 x] 3)) by have := hB.out; (repeat (first | exact Below.refl _ _ | assumption | refine Below.drew ?_ | refine below_many ?_ _ | refine Below.alloc ?_ (by first | (simp; done) | (simp; omega) | omega) _ | refine Below.setCell ?_ (by first | (simp; done) | (simp; omega) | omega) _))) hb5
      clear hO5 hb5 hO hB
      go_wp2_with fail
      go_roundw
      case rel => exact ⟨k + 1, by omega, by go_num, HO5, HB5⟩
      case measure => simp [intOf]; omega
    · obtain rfl : k = xs.length := by omega
      have hO' := hO.out
      rw [List.take_length] at hO'
      have HO' := Lib.hid hO'
      clear hO' hO
      go_wp2_with fail
      go_ret
      exact ⟨_, rfl, HO'.out, hB.out⟩
theorem rdB_one (w : World) (x : Int) (E : TypeId) : RdB (w.alloc (.cells #[.int .u8 x] E)) (.slice (some ⟨w.heap.size, 0, none⟩) 1 1) [x] := by
  refine .inr ⟨w.heap.size, 0, 1, rfl, Nat.le_refl _, by decide, by simp, fun i hi => ?_⟩
  obtain rfl : i = 0 := by simpa using hi
  exact cell_new w _ _ 0
theorem OwnB.below {base : Nat} {w w' : World} {v : Value} {xs : List Int} (h : OwnB base w v xs) (k : Below w.heap.size w w') : OwnB base w' v xs :=
  World.ownsRow.kept h (grown_of_below k) (by cases v.ownBlock <;> simp)
theorem OwnB.alloc {base : Nat} {w : World} {v : Value} {xs : List Int} (h : OwnB base w v xs) (o : Obj) : OwnB base (w.alloc o) v xs := h.below ((Below.refl _ _).alloc (Nat.le_refl _) o)
theorem OwnB.block {base : Nat} {w : World} {v : Value} {xs : List Int} (h : OwnB base w v xs) : ∀ g, v.ownBlock = some g → base ≤ g := fun g hg => (World.ownsRow.lt h g hg).1
set_option maxHeartbeats 2000000 in
set_option maxRecDepth 100000 in
theorem refBytes_calls {w : World} {v : Value} {xs : List Int} (hv : RdB w v xs) (hl : xs.length ≤ 100000) :
    Calls Tryd.prog 34 #[v] w fun e w' => ∃ u, e = .returned u ∧ OwnB w.heap.size w' u xs ∧ Below w.heap.size w w' := by
  obtain ⟨a, c, rfl, hlc, hcm⟩ := hv.len
  obtain ⟨i0, hi, hz0, hz1, hz2⟩ := info_parts infoB
  unfold maxLen at hcm
  have HV := Lib.hid hv
  clear hv
  go_enter Tryd.func34, Tryd.ntmps34
  go_wp2_with (at_make; refine wpList_make_own _ rfl _ _ 30 rfl w.heap.size 5 i0 (.int .u8 0) 1 Tryd.underlying30 hi hz0 hz1 _ _ _ xs.length rfl rfl rfl (by rw [hz2]; omega) (by unfold maxLen; omega) (Nat.le_refl _) ?_)
  intro w1 hO1 hg1
  have HO1 : Hid (OwnB w.heap.size w1 (.slice (some ⟨w.heap.size, 0, none⟩) 0 xs.length) (xs.take 0)) := hO1
  have HB1 : Hid (Below w.heap.size w w1) := (Below.refl _ _).grown hg1 (Nat.le_refl _) (fun k hk => by cases hk)
  clear hO1 hg1
  go_wp2_with fail
  go_loopw [4, 3] (fun i u wq => ∃ k : Nat, k ≤ xs.length ∧ i = .int .i64 k ∧ Hid (OwnB w.heap.size wq u (xs.take k)) ∧ Hid (Below w.heap.size w wq)) (fun i _ _ => xs.length - (intOf i).toNat)
  case atStart => exact ⟨0, Nat.zero_le _, rfl, HO1, HB1⟩
  case round =>
    obtain ⟨k, hk, rfl, hO, hB⟩ := hrel
    by_cases hkl : k < xs.length
    · rcases HV.out with ⟨_, h0⟩ | ⟨b, off, c1, hvv, _, _, hb, hcell⟩
      · rw [h0] at hkl; simp at hkl
      simp only [Value.slice.injEq, true_and] at hvv
      obtain ⟨rfl, rfl⟩ := hvv
      have d1 := (hB.out.cell (p := ⟨b, off + k, none⟩) hb).trans (hcell k hkl)
      have hs := hB.out.size
      have HT := Lib.hid (take_snocK hkl)
      have HTl : Hid ((xs.take k).length + 1 ≤ 1000000) := by unfold Hid; rw [List.length_take]; omega
      generalize xs.getD k 0 = x at d1 HT
      clear hcell
      go_wp2_with (at_builtin; refine wpList_appB rfl _ _ 30 rfl Tryd.underlying30 infoB w.heap.size _ (xs.take k) [x] rfl (hO.out.alloc _) _ rfl (rdB_one wr x _) HTl.out (by simp; omega) ?_)
      intro v5 w5 hO5 hk5
      have HO5 : Hid (OwnB w.heap.size w5 v5 (xs.take (k + 1))) := by unfold Hid; rw [HT.out]; exact hO5
      have HB5 : Hid (Below w.heap.size w w5) := Below.trans (show Below w.heap.size w (wr.alloc (.cells #[.int .u8 x] 5)) by have := hB.out; (repeat (first | exact Below.refl _ _ | assumption | refine Below.drew ?_ | refine below_many ?_ _ | refine Below.alloc ?_ (by first | (simp; done) | (simp; omega) | omega) _ | refine Below.setCell ?_ (by first | (simp; done) | (simp; omega) | omega) _))) (hk5.below (by simp; omega) (fun z hz e => by have := hO.out.block z e; omega))
      clear hO5 hk5 hO hB
      go_wp2_with fail
      go_roundw
      case rel => exact ⟨k + 1, by omega, by go_num, HO5, HB5⟩
      case measure => simp [intOf]; omega
    · obtain rfl : k = xs.length := by omega
      have hO' := hO.out
      rw [List.take_length] at hO'
      have HO' := Lib.hid hO'
      clear hO' hO
      go_wp2_with fail
      go_ret
      exact ⟨_, rfl, HO'.out, hB.out⟩
set_option maxHeartbeats 2000000 in
set_option maxRecDepth 100000 in
theorem sameIntsK_calls {w : World} {v v' : Value} {xs ys : List Int} (hv : RdK .i64 w v xs) (hv' : RdK .i64 w v' ys) :
    Calls Tryd.prog 79 #[v, v'] w fun r w' => r = .returned (.bool (decide (xs = ys))) ∧ Below w.heap.size w w' := by
  obtain ⟨a, c, rfl, hlc, hcm⟩ := hv.len
  obtain ⟨a', c', rfl, hlc', hcm'⟩ := hv'.len
  unfold maxLen at hcm hcm'
  have HV := Lib.hid hv
  have HV' := Lib.hid hv'
  clear hv hv'
  by_cases hl : xs.length = ys.length
  · have HL := Lib.hid hl
    have hq : ((xs.length : Int) != (ys.length : Int)) = false := by simp [hl]
    clear hl
    go_enter Tryd.func79, Tryd.ntmps79
    go_wp2_with fail
    clear hq
    go_loopw [5] (fun i wq => ∃ k : Nat, k ≤ xs.length ∧ i = .int .i64 k ∧ Hid (∀ j, j < k → xs.getD j 0 = ys.getD j 0) ∧ Hid (Below w.heap.size w wq)) (fun i _ => xs.length - (intOf i).toNat)
    case atStart => exact ⟨0, Nat.zero_le _, rfl, fun j hj => absurd hj (Nat.not_lt_zero j), Below.refl _ _⟩
    case round =>
      obtain ⟨k, hk, rfl, hE, hB⟩ := hrel
      by_cases hkl : k < xs.length
      · have hkl' : k < ys.length := by have := HL.out; omega
        rcases HV.out with ⟨h0, _⟩ | ⟨g, off, cc, hvv, h1, h2, hg, hcell⟩
        · rw [h0] at hkl; simp at hkl
        rcases HV'.out with ⟨h0, _⟩ | ⟨g', off', cc', hvv', h1', h2', hg', hcell'⟩
        · rw [h0] at hkl'; simp at hkl'
        simp only [Value.slice.injEq, true_and] at hvv hvv'
        obtain ⟨rfl, rfl⟩ := hvv
        obtain ⟨rfl, rfl⟩ := hvv'
        have d0 := (hB.out.cell (p := ⟨g, off + k, none⟩) hg).trans (hcell k hkl)
        have d0' := (hB.out.cell (p := ⟨g', off' + k, none⟩) hg').trans (hcell' k hkl')
        have hB' : ∀ nq, Hid (Below w.heap.size w (wr.drewN nq)) := fun nq => below_many hB.out nq
        clear hcell hcell'
        by_cases hq : xs.getD k 0 = ys.getD k 0
        · have HE' : Hid (∀ j, j < k + 1 → xs.getD j 0 = ys.getD j 0) := fun j hj => by
            by_cases e : j = k
            · rw [e]; exact hq
            · exact hE.out j (by omega)
          rw [← hq] at d0'
          generalize xs.getD k 0 = x at d0 d0'
          clear hq
          go_wp2_with fail
          go_quiet (fail)
          go_wp2_with fail
          go_roundw
          case rel => exact ⟨k + 1, by omega, by go_num, HE', hB' _⟩
          case measure => simp [intOf]; omega
        · have HNe : Hid (decide (xs = ys) = false) := decide_eq_false fun e => hq (by rw [e])
          have hqb : (xs.getD k 0 == ys.getD k 0) = false := by simpa using hq
          generalize xs.getD k 0 = x at d0 hqb
          generalize ys.getD k 0 = y at d0' hqb
          clear hq
          go_wp2_with fail
          go_quiet (fail)
          go_wp2_with fail
          go_ret
          exact ⟨by rw [HNe.out]; rfl, hB' _⟩
      · obtain rfl : k = xs.length := by omega
        have HNe : Hid (decide (xs = ys) = true) := decide_eq_true (getD_eq HL.out hE.out)
        go_wp2_with fail
        go_ret
        exact ⟨by rw [HNe.out]; rfl, hB.out⟩
  · have hq : ((xs.length : Int) != (ys.length : Int)) = true := by simp; omega
    have HNe : Hid (decide (xs = ys) = false) := decide_eq_false fun e => hl (by rw [e])
    clear hl
    go_enter Tryd.func79, Tryd.ntmps79
    go_wp2_with fail
    go_ret
    exact ⟨by rw [HNe.out]; rfl, Below.refl _ _⟩
theorem made_calls {w : World} {v : Value} {xs : List Int} (e : Int) (hv : RdK .i64 w v xs) (hl : xs.length * 8 ≤ 140737488351232) :
    Calls Tryd.prog 32 #[.int .i64 e, v] w fun r w' => ∃ u, r = .returned (rootV e u) ∧ OwnI 3 w.heap.size w' u xs ∧ Below w.heap.size w w' := by
  have hb0 : Below w.heap.size w (w.alloc (.cells #[.int .i64 0, .slice none 0 0] 48)) := by (repeat (first | exact Below.refl _ _ | assumption | refine Below.drew ?_ | refine below_many ?_ _ | refine Below.alloc ?_ (by first | (simp; done) | (simp; omega) | omega) _ | refine Below.setCell ?_ (by first | (simp; done) | (simp; omega) | omega) _))
  have HV := Lib.hid (hv.below hb0)
  have hz : w.heap.size < (w.alloc (.cells #[.int .i64 0, .slice none 0 0] 48)).heap.size := by simp
  clear hv hb0
  go_enter Tryd.func32, Tryd.ntmps32
  go_wp2_with fail
  refine (ints_calls HV.out hl).mono ?_
  rintro r w1 ⟨u, rfl, hO, hb⟩
  have x0 := (hb.cell (p := ⟨w.heap.size, 0, none⟩) hz).trans (cell_new w _ _ 0)
  have x1 := (hb.cell (p := ⟨w.heap.size, 1, none⟩) hz).trans (cell_new w _ _ 1)
  have f0 := (hb.frozen (p := ⟨w.heap.size, 0, none⟩) hz).trans (frozen_new w _ _ 0)
  have f1 := (hb.frozen (p := ⟨w.heap.size, 1, none⟩) hz).trans (frozen_new w _ _ 1)
  obtain ⟨au, cu, rfl⟩ := hO.len
  have HO := Lib.hid hO
  have HB : Hid (Below w.heap.size w w1) := Below.trans (show Below w.heap.size w (w.alloc (.cells #[.int .i64 0, .slice none 0 0] 48)) by (repeat (first | exact Below.refl _ _ | assumption | refine Below.drew ?_ | refine below_many ?_ _ | refine Below.alloc ?_ (by first | (simp; done) | (simp; omega) | omega) _ | refine Below.setCell ?_ (by first | (simp; done) | (simp; omega) | omega) _))) (hb.mono (by simp))
  have hs := hb.size
  replace x0 : w1.cell? ⟨w.heap.size, 0, none⟩ = some (.int .i64 0) := x0
  replace x1 : w1.cell? ⟨w.heap.size, 1, none⟩ = some (.slice none 0 0) := x1
  have hlt : w.heap.size < w1.heap.size := by omega
  clear hO hb
  go_wp2_with fail
  refine bodyPost_ret (v := rootV e (.slice au xs.length cu)) (by simp [results, Tryd.results32, go_sem, x0, x1]) rfl ⟨_, rfl, ?_, ?_⟩
  · have k := (keep_setCell w1 ⟨w.heap.size, 0, none⟩ (.int .i64 e)).trans (keep_setCell _ ⟨w.heap.size, 1, none⟩ (.slice au xs.length cu))
    have h1 := OwnI.kept HO.out k (fun g hg e => by have := (HO.out.block g hg).1; simp at this; simp only at e; omega)
    exact ownsRow_base_a h1 (by simp)
  · exact (HB.out.setCell (Nat.le_refl _) _).setCell (Nat.le_refl _) _
theorem same_calls {w : World} {v v' : Value} {xs ys : List Int} (e e' : Int) (hv : RdK .i64 w v xs) (hv' : RdK .i64 w v' ys) :
    Calls Tryd.prog 35 #[rootV e v, rootV e' v'] w fun r w' => r = .returned (.bool (decide (e = e' ∧ xs = ys))) ∧ Below w.heap.size w w' := by
  obtain ⟨a, c, rfl, hlc, hcm⟩ := hv.len
  obtain ⟨a', c', rfl, hlc', hcm'⟩ := hv'.len
  unfold maxLen at hcm hcm'
  have hb0 : Below w.heap.size w ((w.alloc (.cells #[.int .i64 e, .slice a xs.length c] 48)).alloc (.cells #[.int .i64 e', .slice a' ys.length c'] 48)) := by (repeat (first | exact Below.refl _ _ | assumption | refine Below.drew ?_ | refine below_many ?_ _ | refine Below.alloc ?_ (by first | (simp; done) | (simp; omega) | omega) _ | refine Below.setCell ?_ (by first | (simp; done) | (simp; omega) | omega) _))
  have HV := Lib.hid (hv.below hb0)
  have HV' := Lib.hid (hv'.below hb0)
  have HB0 := Lib.hid hb0
  clear hv hv' hb0
  by_cases he : e = e'
  · subst he
    have HD : Hid (decide (e = e ∧ xs = ys) = decide (xs = ys)) := by unfold Hid; simp
    go_enter Tryd.func35, Tryd.ntmps35
    go_wp2_with fail
    refine (sameIntsK_calls HV.out HV'.out).mono ?_
    rintro r w1 ⟨rfl, hb⟩
    have HB1 : Hid (Below w.heap.size w w1) := HB0.out.trans (hb.mono HB0.out.size)
    clear hb
    go_wp2_with fail
    go_ret
    exact ⟨by simp, HB1.out⟩
  · have hq : (e == e') = false := by simpa using he
    have HD : Hid (decide (e = e' ∧ xs = ys) = false) := decide_eq_false fun h => he h.1
    clear he
    go_enter Tryd.func35, Tryd.ntmps35
    go_wp2_with fail
    go_ret
    exact ⟨by rw [HD.out]; rfl, HB0.out⟩
set_option maxHeartbeats 4000000 in
set_option maxRecDepth 100000 in
theorem first6_calls {ks : List Nat} {B : Nat} {p : Nat → Addr} {w : World} (hE : Errs ks B p w) (hk2 : 2 ∈ ks) (hk4 : 4 ∈ ks) :
    Calls Tryd.prog 30 #[] w fun r w' => r = .returned (.bool true) ∧ Below w.heap.size w w' := by
  have HE := Lib.hid hE
  clear hE
  go_enter Tryd.func30, Tryd.ntmps30
  go_wp2_with fail
  refine (da_new 4 (by decide) (by decide) w).mono ?_
  rintro e w1 ⟨rfl, hD, hb⟩
  have HD := Lib.hid hD
  have HB := Lib.hid hb
  have hlt := hD.lt
  clear hD hb
  go_wp2_with fail
  refine (load_ok (HE.out.below (HB.out.mono HE.out.size)) hk2 hk4 HD.out (by decide) (by decide) (fun i => by rw [rdS_nil]; unfold zeroS; intro x hx; rw [List.eq_of_mem_replicate hx]; decide)).mono ?_
  rintro e w2 ⟨hb, vl, rfl, hR⟩
  have hL : loadL (rdS zeroS []) = (0, []) := by
    have h0 : ∀ i, rdS zeroS [] i = List.replicate 128 0 := fun i => rfl
    unfold loadL
    rw [h0, h0, readL_zero]
    rfl
  rw [hL] at hR ⊢
  replace HD := Lib.hid (HD.out.below hb)
  replace HB : Hid (Below w.heap.size w w2) := HB.out.trans (hb.mono HB.out.size)
  have hs2 := hb.size
  obtain ⟨al, cl, rfl, _, _⟩ := hR.len
  clear hb hR hL
  go_wp2_with fail
  have hb3 : Below w2.heap.size w2 (w2.alloc (.cells #[.int .i64 0, .slice al ([] : List Int).length cl] 48)) := (Below.refl _ _).alloc (Nat.le_refl _) _
  replace HD := Lib.hid (HD.out.below hb3)
  replace HB : Hid (Below w.heap.size w (w2.alloc (.cells #[.int .i64 0, .slice al ([] : List Int).length cl] 48))) := HB.out.trans (hb3.mono HB.out.size)
  clear hb3
  refine (save_ok HD.out (by decide) (by decide) (by decide) rfl rfl (by decide) (by simp; omega) (rdK_nil .i64 _) (e := 1) (l := []) (by decide)).mono ?_
  rintro e w3 ⟨rfl, pb3, hD, _, hk⟩
  have hs3 := HB.out.size
  have HB3 : Hid (Below w.heap.size w w3) := HB.out.trans ((HD.out.out hk (by simp at hs3 ⊢; omega) (fun z hz => hz)))
  clear hD hk
  go_wp2_with fail
  go_ret
  exact ⟨rfl, HB3.out⟩
end Go.Proofs.YtehacchacgfjlaaDoor
