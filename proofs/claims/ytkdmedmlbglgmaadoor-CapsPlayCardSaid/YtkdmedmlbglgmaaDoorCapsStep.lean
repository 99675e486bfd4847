/- (*caps.Caps).step: what counts of groups, added to greater ones, in whatever order. -/
import Derived.Test.YtkdmedmlbglgmaaDoorCapsAdd
namespace Go.Proofs.YtkdmedmlbglgmaaDoor
open Go.Maps
open Go Go.RowKit
set_option linter.unusedSimpArgs false
set_option linter.unusedVariables false

/-- The table of limits at block b, cell o. -/
structure CapsAt (w : World) (b o : Nat) (m : Lims) : Prop where
  map : ∃ r, w.cell? ⟨b, o, none⟩ = some (.map r) ∧ LimMap w r m
theorem CapsAt.lt {w : World} {b o : Nat} {m : Lims} (h : CapsAt w b o m) : b < w.heap.size := by
  obtain ⟨r, hc, _⟩ := h.map
  exact World.block_lt_of_cell? w ⟨b, o, none⟩ hc
theorem CapsAt.below {w w' : World} {b o : Nat} {m : Lims} (h : CapsAt w b o m) (k : Below w.heap.size w w') : CapsAt w' b o m := by
  have hlt := h.lt
  obtain ⟨r, hc, hm⟩ := h.map
  exact ⟨r, (k.cell (p := ⟨b, o, none⟩) hlt).trans hc, hm.below k⟩

theorem sumBy_done {l l1 l2 : List (G × Int)} {x : G × Int} {done : List (G × Int)} (h : (done ++ (l1 ++ x :: l2)).Perm l) : ((done ++ [x]) ++ (l1 ++ l2)).Perm l := by
  refine List.Perm.trans ?_ h
  rw [List.append_assoc]
  refine List.Perm.append_left _ ?_
  rw [List.singleton_append]
  exact List.perm_middle.symm

theorem overM_all {l : List (G × Int)} (h : ∀ x, sumBy l x ≤ 1000000000000000) : overM MAXM l = false := by
  unfold overM
  rw [List.any_eq_false]
  intro p hp
  have := h p.1
  simp only [decide_eq_true_eq]
  unfold MAXM
  omega

theorem capped_at {w : World} {b o : Nat} {m : Lims} (h : CapsAt w b o m) (s k n : Int) (h1 : (Lit.int .i64 s).wf = true) (h2 : (Lit.int .i64 k).wf = true) :
    Calls Tryd.prog 70 #[.pointer (some ⟨b, o, none⟩), pairV (s, k), .int .i64 n] w fun e w' => e = .returned (.int .i64 (cut (lim m s k) n)) ∧ Below w.heap.size w w' := by
  obtain ⟨r, hc, hm⟩ := h.map
  exact capped_calls hc hm s k n h1 h2
theorem lvl_snoc (cap : G → Int → Int) (to : G → G) (done : List (G × Int)) (x : G × Int) : lvl cap to (done ++ [x]) = lvl cap to done ++ [(to x.1, cap x.1 x.2)] := by simp [lvl]
theorem lvl_sums (cap : G → Int → Int) (to : G → G) (done : List (G × Int)) (x : G × Int) : sumsOf (lvl cap to (done ++ [x])) = addM (sumsOf (lvl cap to done)) (to x.1) (cap x.1 x.2) := by rw [lvl_snoc, sumsOf_snoc]
theorem lvl_by (cap : G → Int → Int) (to : G → G) (done : List (G × Int)) (x : G × Int) : sumBy (lvl cap to (done ++ [x])) (to x.1) = sumBy (lvl cap to done) (to x.1) + cap x.1 x.2 := by
  rw [lvl_snoc, sumBy_append, sumBy_cons, if_pos rfl, sumBy_nil]; omega
theorem step_next {cap : G → Int → Int} {to : G → G} {done : List (G × Int)} {x : G × Int} (hO : ∀ y, sumBy (lvl cap to done) y ≤ 1000000000000000) (h : sumBy (lvl cap to done) (to x.1) + cap x.1 x.2 ≤ 1000000000000000) :
    ∀ y, sumBy (lvl cap to (done ++ [x])) y ≤ 1000000000000000 := by
  intro y
  by_cases hy : to x.1 = y
  · rw [← hy, lvl_by]; exact h
  · rw [lvl_snoc, sumBy_append, sumBy_cons, if_neg hy, sumBy_nil]
    have := hO y; omega
theorem step_over {cap : G → Int → Int} {to : G → G} {S S0 done l : List (G × Int)} {x : G × Int} (hP : S.Perm S0) (hpn : ((done ++ [x]) ++ l).Perm S) (hn : ∀ q ∈ S, 0 ≤ q.2) (hc : ∀ g v, 0 ≤ v → 0 ≤ cap g v)
    (h : 1000000000000000 < sumBy (lvl cap to done) (to x.1) + cap x.1 x.2) : stepV cap to S0 = none := by
  unfold stepV
  have h1 : overM MAXM (lvl cap to S0) = true := by
    refine overM_true (x := to x.1) (by decide) ?_
    rw [← sumBy_perm (lvl_perm cap to (hpn.trans hP)), show lvl cap to ((done ++ [x]) ++ l) = lvl cap to (done ++ [x]) ++ lvl cap to l by simp [lvl], sumBy_append, lvl_by]
    have := sumBy_nonneg (l := lvl cap to l) (lvl_nonneg (S := l) to hc (fun q hq => hn q (hpn.subset (List.mem_append_right _ hq)))) (to x.1)
    unfold MAXM
    omega
  rw [h1]; rfl
theorem cut_isAmt (most : Int) {n : Int} (h0 : 0 ≤ n) (h1 : n ≤ 1000000000000000) : isAmt (cut most n) = true := by
  have := cut_le most n
  have := cut_nonneg most h0
  exact decide_eq_true (by omega)
theorem wf0 : (Lit.int .i64 0).wf = true := by decide
theorem gwf_to1 {g : G} (h : gwf g) : gwf (toI g) := ⟨h.1, h.2.1, wf0⟩
theorem gwf_to2 {g : G} (h : gwf g) : gwf (toM g) := ⟨h.1, wf0, wf0⟩
theorem gwf_to3 {g : G} (_ : gwf g) : gwf (toC g) := ⟨wf0, wf0, wf0⟩

set_option maxRecDepth 100000 in
set_option maxHeartbeats 4000000 in
theorem step1_calls {ks : List Nat} {B : Nat} {p : Nat → Addr} {w : World} (hE : Errs ks B p w) (h3 : 3 ∈ ks) {b o : Nat} {lm : Lims} (hC : CapsAt w b o lm) {mb : Option Nat} {S S0 : List (G × Int)} (hS : GrpMap w mb S) (hP : S.Perm S0)
    (hn : ∀ q ∈ S, 0 ≤ q.2 ∧ q.2 ≤ 1000000000000000 ∧ gwf q.1) :
    Calls Tryd.prog 38 #[.pointer (some ⟨b, o, none⟩), .map mb, .func (.func 35) #[] #[]] w fun e w' => Below w.heap.size w w' ∧
      ((stepV (capI lm) toI S0 = none ∧ e = .returned (.tuple #[.map none, ev p 3])) ∨
       ∃ nb M M0, stepV (capI lm) toI S0 = some M0 ∧ M.Perm M0 ∧ e = .returned (.tuple #[.map (some nb), .nilIface]) ∧ GrpMap w' (some nb) M ∧ w.heap.size ≤ nb) := by
  have hmm := @run_makeMap Tryd.prog
  have HE := Lib.hid hE
  have HC := Lib.hid hC
  have HN := Lib.hid hn
  have hm0 : GrpMap (w.alloc (Obj.map #[] 0)) (some w.heap.size) [] := .inr ⟨_, rfl, MapAt.made w⟩
  have hS1 := hS.alloc (Obj.map #[] 0)
  have hlt := hC.lt
  have hsz0 : Hid ((w.alloc (Obj.map #[] 0)).heap.size = w.heap.size + 1) := by unfold Hid; simp
  have HMB : Hid (∀ x, mb = some x → ¬ x = w.heap.size) := fun x hx e => by have := hS.lt x hx; omega
  clear hE hC hS hn
  go_enter Tryd.func38, Tryd.ntmps38
  go_wp2_with (first | (at_range; refine wpList_rng _ (by rfl) (.tmp 15) 86 (by rfl) 2 Tryd.underlying86 (by rfl) hS1 (w.heap.size + 1) (by exact hsz0.out) ?_; intro ob hR))
  have HR0 := Lib.hid hR
  have HM0 := Lib.hid (hm0.alloc ob)
  clear hR hm0 hS1
  try go_frame
  go_loopw [13] (fun _ wq => ∃ done left, Hid (GrpRng wq mb (w.heap.size + 1) S left) ∧ Hid ((done ++ left).Perm S) ∧ Hid (GrpMap wq (some w.heap.size) (sumsOf (lvl (capI lm) toI done))) ∧ Hid (Below w.heap.size w wq) ∧ Hid (∀ x, sumBy (lvl (capI lm) toI done) x ≤ 1000000000000000) ∧ w.heap.size + 1 < wq.heap.size) (fun _ wq => rleft wq mb (w.heap.size + 1))
  case atStart => exact ⟨[], S, HR0, List.Perm.refl _, HM0, by show Below _ _ _; (repeat (first | exact Below.refl _ _ | assumption | refine Below.drew ?_ | refine below_many ?_ _ | refine Below.alloc ?_ (by first | (simp; done) | (simp; omega) | omega) _ | refine Below.setCell ?_ (by first | (simp; done) | (simp; omega) | omega) _)), fun x => by simp [lvl, sumBy, sumAll], by simp⟩
  case round =>
    obtain ⟨done, left, hR, hP1, hM, hB, hO, hs1⟩ := hrel
    have hR' := hR.out
    go_wp2_with (first | (at_next; refine wpList_rng_next _ (by rfl) (.tmp 16) (by rfl) (by rfl) hR' ?_ ?_))
    · intro hl
      subst hl
      rw [List.append_nil] at hP1
      go_wp2_with fail
      go_ret2
      refine ⟨hB.out, .inr ⟨_, _, sumsOf (lvl (capI lm) toI S0), ?_, sumsOf_perm (lvl_perm _ _ (hP1.out.trans hP)), rfl, hM.out, Nat.le_refl _⟩⟩
      have hp := lvl_perm (capI lm) toI (hP1.out.trans hP)
      unfold stepV
      rw [← overM_perm hp, overM_all (fun x => hO.out x)]
      rfl
    · intro a1 a2 a3 v l1 l2 w1 hl hR1 hk1 hsz1 hen
      subst hl
      have hmem : ((a1, a2, a3), v) ∈ S := hP1.out.subset (by simp)
      have hB1 : Below w.heap.size w w1 := hB.out.trans (hk1.below hB.out.size (fun k hk e => by omega))
      have hM1 : GrpMap w1 (some w.heap.size) (sumsOf (lvl (capI lm) toI done)) := hM.out.keep hk1 (fun b hb e => by cases hb; omega)
      obtain ⟨hv0, hv1, hgw⟩ := HN.out _ hmem
      have hpn := sumBy_done hP1.out
      have HRL := Lib.hid hR.out.left_eq
      have HR1 := Lib.hid hR1
      have HM1 := Lib.hid hM1
      have HPn := Lib.hid hpn
      have HGW := Lib.hid hgw
      clear hR hR' hR1 hM hM1 hB hk1 hP1 hpn hmem hgw
      go_wp2_with fail
      refine (clo1_calls (a1, a2, a3) _).mono ?_
      simp only [toI]
      rintro e w2 ⟨rfl, hb2⟩
      have hb2' : Below w1.heap.size w1 w2 := ((Below.refl _ _).alloc (Nat.le_refl _) _).trans (hb2.mono (by simp))
      have hB2 : Below w.heap.size w w2 := hB1.trans (hb2'.mono hB1.size)
      have HR2 := Lib.hid (HR1.out.below hb2')
      have HM2 := Lib.hid (HM1.out.below hb2')
      have hs2 : w.heap.size + 1 < w2.heap.size := by have := hb2'.size; omega
      clear hb2 hb2' hB1 HR1 HM1 hen
      go_wp2_with fail
      have HB4 : Hid (Below w.heap.size w ((w2.alloc (Obj.cells #[Value.int IntKind.i64 3, Value.int IntKind.i64 a3] 30)).alloc (Obj.cells #[Value.int IntKind.i64 a1, Value.int IntKind.i64 a2, Value.int IntKind.i64 0] 89)).drew) := by unfold Hid; (repeat (first | exact Below.refl _ _ | assumption | refine Below.drew ?_ | refine below_many ?_ _ | refine Below.alloc ?_ (by first | (simp; done) | (simp; omega) | omega) _ | refine Below.setCell ?_ (by first | (simp; done) | (simp; omega) | omega) _))
      have HM4 := Lib.hid (((HM2.out.alloc (Obj.cells #[Value.int IntKind.i64 3, Value.int IntKind.i64 a3] 30)).alloc (Obj.cells #[Value.int IntKind.i64 a1, Value.int IntKind.i64 a2, Value.int IntKind.i64 0] 89)).drew)
      have HR4 : Hid (GrpRng ((w2.alloc (Obj.cells #[Value.int IntKind.i64 3, Value.int IntKind.i64 a3] 30)).alloc (Obj.cells #[Value.int IntKind.i64 a1, Value.int IntKind.i64 a2, Value.int IntKind.i64 0] 89)).drew mb (w.heap.size + 1) S (l1 ++ l2)) := HR2.out.below (by (repeat (first | exact Below.refl _ _ | assumption | refine Below.drew ?_ | refine below_many ?_ _ | refine Below.alloc ?_ (by first | (simp; done) | (simp; omega) | omega) _ | refine Below.setCell ?_ (by first | (simp; done) | (simp; omega) | omega) _)))
      have HQ0 : Hid (((w2.alloc (Obj.cells #[Value.int IntKind.i64 3, Value.int IntKind.i64 a3] 30)).alloc (Obj.cells #[Value.int IntKind.i64 a1, Value.int IntKind.i64 a2, Value.int IntKind.i64 0] 89)).drew.cell? ⟨w2.heap.size + 1, 0, none⟩ = some (Value.int IntKind.i64 a1)) := by unfold Hid; go_simp
      have HQ1 : Hid (((w2.alloc (Obj.cells #[Value.int IntKind.i64 3, Value.int IntKind.i64 a3] 30)).alloc (Obj.cells #[Value.int IntKind.i64 a1, Value.int IntKind.i64 a2, Value.int IntKind.i64 0] 89)).drew.cell? ⟨w2.heap.size + 1, 1, none⟩ = some (Value.int IntKind.i64 a2)) := by unfold Hid; go_simp
      have HQ2 : Hid (((w2.alloc (Obj.cells #[Value.int IntKind.i64 3, Value.int IntKind.i64 a3] 30)).alloc (Obj.cells #[Value.int IntKind.i64 a1, Value.int IntKind.i64 a2, Value.int IntKind.i64 0] 89)).drew.cell? ⟨w2.heap.size + 1, 2, none⟩ = some (Value.int IntKind.i64 0)) := by unfold Hid; go_simp
      have hs4 : w.heap.size + 1 < ((w2.alloc (Obj.cells #[Value.int IntKind.i64 3, Value.int IntKind.i64 a3] 30)).alloc (Obj.cells #[Value.int IntKind.i64 a1, Value.int IntKind.i64 a2, Value.int IntKind.i64 0] 89)).drew.heap.size := by simp; omega
      have HA1 : Hid (isAmt ((mget (sumsOf (lvl (capI lm) toI done)) (toI (a1, a2, a3))).getD 0) = true) := by
        unfold Hid
        rw [sumsOf_getD]
        have h1 := hO.out (toI (a1, a2, a3))
        have h2 := sumBy_nonneg (lvl_nonneg (S := done) (cap := capI lm) toI (fun _ _ h => cut_nonneg _ h) (fun q hq => (HN.out q (HPn.out.subset (by simp [hq]))).1)) (toI (a1, a2, a3))
        exact decide_eq_true (by omega)
      have HA2 : Hid (isAmt (capI lm (a1, a2, a3) v) = true) := cut_isAmt _ hv0 hv1
      have HSD : Hid ((mget (sumsOf (lvl (capI lm) toI done)) (toI (a1, a2, a3))).getD 0 = sumBy (lvl (capI lm) toI done) (toI (a1, a2, a3))) := sumsOf_getD _ _
      by_cases hov : sumBy (lvl (capI lm) toI done) (toI (a1, a2, a3)) + capI lm (a1, a2, a3) v ≤ 1000000000000000
      · have HOV := Lib.hid hov
        clear hov HM2 HR2 hB2
        go_region_with (first
          | (go_at_call 70; refine (capped_at (HC.out.below HB4.out) 3 a3 v (by decide) HGW.out.2.2).mono ?_; rintro e w3 ⟨rfl, hb3⟩; have hq0 := (hb3.cell (p := ⟨w2.heap.size + 1, 0, none⟩) (by simp)).trans HQ0.out; have hq1 := (hb3.cell (p := ⟨w2.heap.size + 1, 1, none⟩) (by simp)).trans HQ1.out; have hq2 := (hb3.cell (p := ⟨w2.heap.size + 1, 2, none⟩) (by simp)).trans HQ2.out; have HM5 := Lib.hid (HM4.out.below hb3); have HR5 := Lib.hid (HR4.out.below hb3); have HB5 := Lib.hid (HB4.out.trans (hb3.mono HB4.out.size)); have hs5 : w.heap.size + 1 < w3.heap.size := Nat.lt_of_lt_of_le hs4 hb3.size; clear hb3)
          | (go_at_call 34; refine (grpAdd_calls (HE.out.below (HB5.out.mono HE.out.size)) h3 HM5.out (toI (a1, a2, a3)) (gwf_to1 HGW.out) (capI lm (a1, a2, a3) v) HA1.out HA2.out).mono ?_; rintro e w6 (⟨_, rfl, hM6, hK6⟩ | ⟨g1, _⟩); rotate_left; exact absurd g1 (by rw [HSD.out]; exact Int.not_lt.2 HOV.out)))
        all_goals
          have HM6 := Lib.hid hM6
          have hB6 : Below w.heap.size w w6 := HB5.out.trans (hK6.below HB5.out.size (fun k hk e => by omega))
          have HR6 := Lib.hid (HR5.out.keep hK6 (by omega) (fun b' hb' => HMB.out b' hb'))
          have hs6 : w.heap.size + 1 < w6.heap.size := Nat.lt_of_lt_of_le hs5 hK6.size
          have HB6 := Lib.hid hB6
          clear hM6 hK6 hB6 hq0 hq1 hq2 HM5 HR5 HB5 hs5
          go_wp2_with fail
          go_roundw
          case rel => exact ⟨done ++ [((a1, a2, a3), v)], l1 ++ l2, HR6, HPn, by rw [lvl_sums]; exact HM6, HB6, step_next hO.out HOV.out, hs6⟩
          case measure => rw [HR6.out.left_eq, HRL.out]; simp
      · have HOV := Lib.hid (Int.not_le.1 hov)
        clear hov HM2 HR2 hB2
        go_region_with (first
          | (go_at_call 70; refine (capped_at (HC.out.below HB4.out) 3 a3 v (by decide) HGW.out.2.2).mono ?_; rintro e w3 ⟨rfl, hb3⟩; have hq0 := (hb3.cell (p := ⟨w2.heap.size + 1, 0, none⟩) (by simp)).trans HQ0.out; have hq1 := (hb3.cell (p := ⟨w2.heap.size + 1, 1, none⟩) (by simp)).trans HQ1.out; have hq2 := (hb3.cell (p := ⟨w2.heap.size + 1, 2, none⟩) (by simp)).trans HQ2.out; have HM5 := Lib.hid (HM4.out.below hb3); have HR5 := Lib.hid (HR4.out.below hb3); have HB5 := Lib.hid (HB4.out.trans (hb3.mono HB4.out.size)); have hs5 : w.heap.size + 1 < w3.heap.size := Nat.lt_of_lt_of_le hs4 hb3.size; clear hb3)
          | (go_at_call 34; refine (grpAdd_calls (HE.out.below (HB5.out.mono HE.out.size)) h3 HM5.out (toI (a1, a2, a3)) (gwf_to1 HGW.out) (capI lm (a1, a2, a3) v) HA1.out HA2.out).mono ?_; rintro e w6 (⟨g1, _⟩ | ⟨_, rfl, hb6⟩); exact absurd g1 (by rw [HSD.out]; exact Int.not_le.2 HOV.out)))
        all_goals
          have HB6 := Lib.hid (HB5.out.trans (hb6.mono HB5.out.size))
          clear hb6 hq0 hq1 hq2 HM5 HR5 HB5 hs5
          go_wp2_with fail
          go_ret2
          exact ⟨HB6.out, .inl ⟨step_over hP HPn.out (fun q hq => (HN.out q hq).1) (fun _ _ h => cut_nonneg _ h) HOV.out, rfl⟩⟩

set_option maxRecDepth 100000 in
set_option maxHeartbeats 4000000 in
theorem step2_calls {ks : List Nat} {B : Nat} {p : Nat → Addr} {w : World} (hE : Errs ks B p w) (h3 : 3 ∈ ks) {b o : Nat} {lm : Lims} (hC : CapsAt w b o lm) {mb : Option Nat} {S S0 : List (G × Int)} (hS : GrpMap w mb S) (hP : S.Perm S0)
    (hn : ∀ q ∈ S, 0 ≤ q.2 ∧ q.2 ≤ 1000000000000000 ∧ gwf q.1) :
    Calls Tryd.prog 38 #[.pointer (some ⟨b, o, none⟩), .map mb, .func (.func 36) #[] #[]] w fun e w' => Below w.heap.size w w' ∧
      ((stepV (capM lm) toM S0 = none ∧ e = .returned (.tuple #[.map none, ev p 3])) ∨
       ∃ nb M M0, stepV (capM lm) toM S0 = some M0 ∧ M.Perm M0 ∧ e = .returned (.tuple #[.map (some nb), .nilIface]) ∧ GrpMap w' (some nb) M ∧ w.heap.size ≤ nb) := by
  have hmm := @run_makeMap Tryd.prog
  have HE := Lib.hid hE
  have HC := Lib.hid hC
  have HN := Lib.hid hn
  have hm0 : GrpMap (w.alloc (Obj.map #[] 0)) (some w.heap.size) [] := .inr ⟨_, rfl, MapAt.made w⟩
  have hS1 := hS.alloc (Obj.map #[] 0)
  have hlt := hC.lt
  have hsz0 : Hid ((w.alloc (Obj.map #[] 0)).heap.size = w.heap.size + 1) := by unfold Hid; simp
  have HMB : Hid (∀ x, mb = some x → ¬ x = w.heap.size) := fun x hx e => by have := hS.lt x hx; omega
  clear hE hC hS hn
  go_enter Tryd.func38, Tryd.ntmps38
  go_wp2_with (first | (at_range; refine wpList_rng _ (by rfl) (.tmp 15) 86 (by rfl) 2 Tryd.underlying86 (by rfl) hS1 (w.heap.size + 1) (by exact hsz0.out) ?_; intro ob hR))
  have HR0 := Lib.hid hR
  have HM0 := Lib.hid (hm0.alloc ob)
  clear hR hm0 hS1
  try go_frame
  go_loopw [13] (fun _ wq => ∃ done left, Hid (GrpRng wq mb (w.heap.size + 1) S left) ∧ Hid ((done ++ left).Perm S) ∧ Hid (GrpMap wq (some w.heap.size) (sumsOf (lvl (capM lm) toM done))) ∧ Hid (Below w.heap.size w wq) ∧ Hid (∀ x, sumBy (lvl (capM lm) toM done) x ≤ 1000000000000000) ∧ w.heap.size + 1 < wq.heap.size) (fun _ wq => rleft wq mb (w.heap.size + 1))
  case atStart => exact ⟨[], S, HR0, List.Perm.refl _, HM0, by show Below _ _ _; (repeat (first | exact Below.refl _ _ | assumption | refine Below.drew ?_ | refine below_many ?_ _ | refine Below.alloc ?_ (by first | (simp; done) | (simp; omega) | omega) _ | refine Below.setCell ?_ (by first | (simp; done) | (simp; omega) | omega) _)), fun x => by simp [lvl, sumBy, sumAll], by simp⟩
  case round =>
    obtain ⟨done, left, hR, hP1, hM, hB, hO, hs1⟩ := hrel
    have hR' := hR.out
    go_wp2_with (first | (at_next; refine wpList_rng_next _ (by rfl) (.tmp 16) (by rfl) (by rfl) hR' ?_ ?_))
    · intro hl
      subst hl
      rw [List.append_nil] at hP1
      go_wp2_with fail
      go_ret2
      refine ⟨hB.out, .inr ⟨_, _, sumsOf (lvl (capM lm) toM S0), ?_, sumsOf_perm (lvl_perm _ _ (hP1.out.trans hP)), rfl, hM.out, Nat.le_refl _⟩⟩
      have hp := lvl_perm (capM lm) toM (hP1.out.trans hP)
      unfold stepV
      rw [← overM_perm hp, overM_all (fun x => hO.out x)]
      rfl
    · intro a1 a2 a3 v l1 l2 w1 hl hR1 hk1 hsz1 hen
      subst hl
      have hmem : ((a1, a2, a3), v) ∈ S := hP1.out.subset (by simp)
      have hB1 : Below w.heap.size w w1 := hB.out.trans (hk1.below hB.out.size (fun k hk e => by omega))
      have hM1 : GrpMap w1 (some w.heap.size) (sumsOf (lvl (capM lm) toM done)) := hM.out.keep hk1 (fun b hb e => by cases hb; omega)
      obtain ⟨hv0, hv1, hgw⟩ := HN.out _ hmem
      have hpn := sumBy_done hP1.out
      have HRL := Lib.hid hR.out.left_eq
      have HR1 := Lib.hid hR1
      have HM1 := Lib.hid hM1
      have HPn := Lib.hid hpn
      have HGW := Lib.hid hgw
      clear hR hR' hR1 hM hM1 hB hk1 hP1 hpn hmem hgw
      go_wp2_with fail
      refine (clo2_calls (a1, a2, a3) _).mono ?_
      simp only [toM]
      rintro e w2 ⟨rfl, hb2⟩
      have hb2' : Below w1.heap.size w1 w2 := ((Below.refl _ _).alloc (Nat.le_refl _) _).trans (hb2.mono (by simp))
      have hB2 : Below w.heap.size w w2 := hB1.trans (hb2'.mono hB1.size)
      have HR2 := Lib.hid (HR1.out.below hb2')
      have HM2 := Lib.hid (HM1.out.below hb2')
      have hs2 : w.heap.size + 1 < w2.heap.size := by have := hb2'.size; omega
      clear hb2 hb2' hB1 HR1 HM1 hen
      go_wp2_with fail
      have HB4 : Hid (Below w.heap.size w ((w2.alloc (Obj.cells #[Value.int IntKind.i64 2, Value.int IntKind.i64 a2] 30)).alloc (Obj.cells #[Value.int IntKind.i64 a1, Value.int IntKind.i64 0, Value.int IntKind.i64 0] 89)).drew) := by unfold Hid; (repeat (first | exact Below.refl _ _ | assumption | refine Below.drew ?_ | refine below_many ?_ _ | refine Below.alloc ?_ (by first | (simp; done) | (simp; omega) | omega) _ | refine Below.setCell ?_ (by first | (simp; done) | (simp; omega) | omega) _))
      have HM4 := Lib.hid (((HM2.out.alloc (Obj.cells #[Value.int IntKind.i64 2, Value.int IntKind.i64 a2] 30)).alloc (Obj.cells #[Value.int IntKind.i64 a1, Value.int IntKind.i64 0, Value.int IntKind.i64 0] 89)).drew)
      have HR4 : Hid (GrpRng ((w2.alloc (Obj.cells #[Value.int IntKind.i64 2, Value.int IntKind.i64 a2] 30)).alloc (Obj.cells #[Value.int IntKind.i64 a1, Value.int IntKind.i64 0, Value.int IntKind.i64 0] 89)).drew mb (w.heap.size + 1) S (l1 ++ l2)) := HR2.out.below (by (repeat (first | exact Below.refl _ _ | assumption | refine Below.drew ?_ | refine below_many ?_ _ | refine Below.alloc ?_ (by first | (simp; done) | (simp; omega) | omega) _ | refine Below.setCell ?_ (by first | (simp; done) | (simp; omega) | omega) _)))
      have HQ0 : Hid (((w2.alloc (Obj.cells #[Value.int IntKind.i64 2, Value.int IntKind.i64 a2] 30)).alloc (Obj.cells #[Value.int IntKind.i64 a1, Value.int IntKind.i64 0, Value.int IntKind.i64 0] 89)).drew.cell? ⟨w2.heap.size + 1, 0, none⟩ = some (Value.int IntKind.i64 a1)) := by unfold Hid; go_simp
      have HQ1 : Hid (((w2.alloc (Obj.cells #[Value.int IntKind.i64 2, Value.int IntKind.i64 a2] 30)).alloc (Obj.cells #[Value.int IntKind.i64 a1, Value.int IntKind.i64 0, Value.int IntKind.i64 0] 89)).drew.cell? ⟨w2.heap.size + 1, 1, none⟩ = some (Value.int IntKind.i64 0)) := by unfold Hid; go_simp
      have HQ2 : Hid (((w2.alloc (Obj.cells #[Value.int IntKind.i64 2, Value.int IntKind.i64 a2] 30)).alloc (Obj.cells #[Value.int IntKind.i64 a1, Value.int IntKind.i64 0, Value.int IntKind.i64 0] 89)).drew.cell? ⟨w2.heap.size + 1, 2, none⟩ = some (Value.int IntKind.i64 0)) := by unfold Hid; go_simp
      have hs4 : w.heap.size + 1 < ((w2.alloc (Obj.cells #[Value.int IntKind.i64 2, Value.int IntKind.i64 a2] 30)).alloc (Obj.cells #[Value.int IntKind.i64 a1, Value.int IntKind.i64 0, Value.int IntKind.i64 0] 89)).drew.heap.size := by simp; omega
      have HA1 : Hid (isAmt ((mget (sumsOf (lvl (capM lm) toM done)) (toM (a1, a2, a3))).getD 0) = true) := by
        unfold Hid
        rw [sumsOf_getD]
        have h1 := hO.out (toM (a1, a2, a3))
        have h2 := sumBy_nonneg (lvl_nonneg (S := done) (cap := capM lm) toM (fun _ _ h => cut_nonneg _ h) (fun q hq => (HN.out q (HPn.out.subset (by simp [hq]))).1)) (toM (a1, a2, a3))
        exact decide_eq_true (by omega)
      have HA2 : Hid (isAmt (capM lm (a1, a2, a3) v) = true) := cut_isAmt _ hv0 hv1
      have HSD : Hid ((mget (sumsOf (lvl (capM lm) toM done)) (toM (a1, a2, a3))).getD 0 = sumBy (lvl (capM lm) toM done) (toM (a1, a2, a3))) := sumsOf_getD _ _
      by_cases hov : sumBy (lvl (capM lm) toM done) (toM (a1, a2, a3)) + capM lm (a1, a2, a3) v ≤ 1000000000000000
      · have HOV := Lib.hid hov
        clear hov HM2 HR2 hB2
        go_region_with (first
          | (go_at_call 70; refine (capped_at (HC.out.below HB4.out) 2 a2 v (by decide) HGW.out.2.1).mono ?_; rintro e w3 ⟨rfl, hb3⟩; have hq0 := (hb3.cell (p := ⟨w2.heap.size + 1, 0, none⟩) (by simp)).trans HQ0.out; have hq1 := (hb3.cell (p := ⟨w2.heap.size + 1, 1, none⟩) (by simp)).trans HQ1.out; have hq2 := (hb3.cell (p := ⟨w2.heap.size + 1, 2, none⟩) (by simp)).trans HQ2.out; have HM5 := Lib.hid (HM4.out.below hb3); have HR5 := Lib.hid (HR4.out.below hb3); have HB5 := Lib.hid (HB4.out.trans (hb3.mono HB4.out.size)); have hs5 : w.heap.size + 1 < w3.heap.size := Nat.lt_of_lt_of_le hs4 hb3.size; clear hb3)
          | (go_at_call 34; refine (grpAdd_calls (HE.out.below (HB5.out.mono HE.out.size)) h3 HM5.out (toM (a1, a2, a3)) (gwf_to2 HGW.out) (capM lm (a1, a2, a3) v) HA1.out HA2.out).mono ?_; rintro e w6 (⟨_, rfl, hM6, hK6⟩ | ⟨g1, _⟩); rotate_left; exact absurd g1 (by rw [HSD.out]; exact Int.not_lt.2 HOV.out)))
        all_goals
          have HM6 := Lib.hid hM6
          have hB6 : Below w.heap.size w w6 := HB5.out.trans (hK6.below HB5.out.size (fun k hk e => by omega))
          have HR6 := Lib.hid (HR5.out.keep hK6 (by omega) (fun b' hb' => HMB.out b' hb'))
          have hs6 : w.heap.size + 1 < w6.heap.size := Nat.lt_of_lt_of_le hs5 hK6.size
          have HB6 := Lib.hid hB6
          clear hM6 hK6 hB6 hq0 hq1 hq2 HM5 HR5 HB5 hs5
          go_wp2_with fail
          go_roundw
          case rel => exact ⟨done ++ [((a1, a2, a3), v)], l1 ++ l2, HR6, HPn, by rw [lvl_sums]; exact HM6, HB6, step_next hO.out HOV.out, hs6⟩
          case measure => rw [HR6.out.left_eq, HRL.out]; simp
      · have HOV := Lib.hid (Int.not_le.1 hov)
        clear hov HM2 HR2 hB2
        go_region_with (first
          | (go_at_call 70; refine (capped_at (HC.out.below HB4.out) 2 a2 v (by decide) HGW.out.2.1).mono ?_; rintro e w3 ⟨rfl, hb3⟩; have hq0 := (hb3.cell (p := ⟨w2.heap.size + 1, 0, none⟩) (by simp)).trans HQ0.out; have hq1 := (hb3.cell (p := ⟨w2.heap.size + 1, 1, none⟩) (by simp)).trans HQ1.out; have hq2 := (hb3.cell (p := ⟨w2.heap.size + 1, 2, none⟩) (by simp)).trans HQ2.out; have HM5 := Lib.hid (HM4.out.below hb3); have HR5 := Lib.hid (HR4.out.below hb3); have HB5 := Lib.hid (HB4.out.trans (hb3.mono HB4.out.size)); have hs5 : w.heap.size + 1 < w3.heap.size := Nat.lt_of_lt_of_le hs4 hb3.size; clear hb3)
          | (go_at_call 34; refine (grpAdd_calls (HE.out.below (HB5.out.mono HE.out.size)) h3 HM5.out (toM (a1, a2, a3)) (gwf_to2 HGW.out) (capM lm (a1, a2, a3) v) HA1.out HA2.out).mono ?_; rintro e w6 (⟨g1, _⟩ | ⟨_, rfl, hb6⟩); exact absurd g1 (by rw [HSD.out]; exact Int.not_le.2 HOV.out)))
        all_goals
          have HB6 := Lib.hid (HB5.out.trans (hb6.mono HB5.out.size))
          clear hb6 hq0 hq1 hq2 HM5 HR5 HB5 hs5
          go_wp2_with fail
          go_ret2
          exact ⟨HB6.out, .inl ⟨step_over hP HPn.out (fun q hq => (HN.out q hq).1) (fun _ _ h => cut_nonneg _ h) HOV.out, rfl⟩⟩

set_option maxRecDepth 100000 in
set_option maxHeartbeats 4000000 in
theorem step3_calls {ks : List Nat} {B : Nat} {p : Nat → Addr} {w : World} (hE : Errs ks B p w) (h3 : 3 ∈ ks) {b o : Nat} {lm : Lims} (hC : CapsAt w b o lm) {mb : Option Nat} {S S0 : List (G × Int)} (hS : GrpMap w mb S) (hP : S.Perm S0)
    (hn : ∀ q ∈ S, 0 ≤ q.2 ∧ q.2 ≤ 1000000000000000 ∧ gwf q.1) :
    Calls Tryd.prog 38 #[.pointer (some ⟨b, o, none⟩), .map mb, .func (.func 37) #[] #[]] w fun e w' => Below w.heap.size w w' ∧
      ((stepV (capC lm) toC S0 = none ∧ e = .returned (.tuple #[.map none, ev p 3])) ∨
       ∃ nb M M0, stepV (capC lm) toC S0 = some M0 ∧ M.Perm M0 ∧ e = .returned (.tuple #[.map (some nb), .nilIface]) ∧ GrpMap w' (some nb) M ∧ w.heap.size ≤ nb) := by
  have hmm := @run_makeMap Tryd.prog
  have HE := Lib.hid hE
  have HC := Lib.hid hC
  have HN := Lib.hid hn
  have hm0 : GrpMap (w.alloc (Obj.map #[] 0)) (some w.heap.size) [] := .inr ⟨_, rfl, MapAt.made w⟩
  have hS1 := hS.alloc (Obj.map #[] 0)
  have hlt := hC.lt
  have hsz0 : Hid ((w.alloc (Obj.map #[] 0)).heap.size = w.heap.size + 1) := by unfold Hid; simp
  have HMB : Hid (∀ x, mb = some x → ¬ x = w.heap.size) := fun x hx e => by have := hS.lt x hx; omega
  clear hE hC hS hn
  go_enter Tryd.func38, Tryd.ntmps38
  go_wp2_with (first | (at_range; refine wpList_rng _ (by rfl) (.tmp 15) 86 (by rfl) 2 Tryd.underlying86 (by rfl) hS1 (w.heap.size + 1) (by exact hsz0.out) ?_; intro ob hR))
  have HR0 := Lib.hid hR
  have HM0 := Lib.hid (hm0.alloc ob)
  clear hR hm0 hS1
  try go_frame
  go_loopw [13] (fun _ wq => ∃ done left, Hid (GrpRng wq mb (w.heap.size + 1) S left) ∧ Hid ((done ++ left).Perm S) ∧ Hid (GrpMap wq (some w.heap.size) (sumsOf (lvl (capC lm) toC done))) ∧ Hid (Below w.heap.size w wq) ∧ Hid (∀ x, sumBy (lvl (capC lm) toC done) x ≤ 1000000000000000) ∧ w.heap.size + 1 < wq.heap.size) (fun _ wq => rleft wq mb (w.heap.size + 1))
  case atStart => exact ⟨[], S, HR0, List.Perm.refl _, HM0, by show Below _ _ _; (repeat (first | exact Below.refl _ _ | assumption | refine Below.drew ?_ | refine below_many ?_ _ | refine Below.alloc ?_ (by first | (simp; done) | (simp; omega) | omega) _ | refine Below.setCell ?_ (by first | (simp; done) | (simp; omega) | omega) _)), fun x => by simp [lvl, sumBy, sumAll], by simp⟩
  case round =>
    obtain ⟨done, left, hR, hP1, hM, hB, hO, hs1⟩ := hrel
    have hR' := hR.out
    go_wp2_with (first | (at_next; refine wpList_rng_next _ (by rfl) (.tmp 16) (by rfl) (by rfl) hR' ?_ ?_))
    · intro hl
      subst hl
      rw [List.append_nil] at hP1
      go_wp2_with fail
      go_ret2
      refine ⟨hB.out, .inr ⟨_, _, sumsOf (lvl (capC lm) toC S0), ?_, sumsOf_perm (lvl_perm _ _ (hP1.out.trans hP)), rfl, hM.out, Nat.le_refl _⟩⟩
      have hp := lvl_perm (capC lm) toC (hP1.out.trans hP)
      unfold stepV
      rw [← overM_perm hp, overM_all (fun x => hO.out x)]
      rfl
    · intro a1 a2 a3 v l1 l2 w1 hl hR1 hk1 hsz1 hen
      subst hl
      have hmem : ((a1, a2, a3), v) ∈ S := hP1.out.subset (by simp)
      have hB1 : Below w.heap.size w w1 := hB.out.trans (hk1.below hB.out.size (fun k hk e => by omega))
      have hM1 : GrpMap w1 (some w.heap.size) (sumsOf (lvl (capC lm) toC done)) := hM.out.keep hk1 (fun b hb e => by cases hb; omega)
      obtain ⟨hv0, hv1, hgw⟩ := HN.out _ hmem
      have hpn := sumBy_done hP1.out
      have HRL := Lib.hid hR.out.left_eq
      have HR1 := Lib.hid hR1
      have HM1 := Lib.hid hM1
      have HPn := Lib.hid hpn
      have HGW := Lib.hid hgw
      clear hR hR' hR1 hM hM1 hB hk1 hP1 hpn hmem hgw
      go_wp2_with fail
      refine (clo3_calls (a1, a2, a3) _).mono ?_
      simp only [toC]
      rintro e w2 ⟨rfl, hb2⟩
      have hb2' : Below w1.heap.size w1 w2 := ((Below.refl _ _).alloc (Nat.le_refl _) _).trans (hb2.mono (by simp))
      have hB2 : Below w.heap.size w w2 := hB1.trans (hb2'.mono hB1.size)
      have HR2 := Lib.hid (HR1.out.below hb2')
      have HM2 := Lib.hid (HM1.out.below hb2')
      have hs2 : w.heap.size + 1 < w2.heap.size := by have := hb2'.size; omega
      clear hb2 hb2' hB1 HR1 HM1 hen
      go_wp2_with fail
      have HB4 : Hid (Below w.heap.size w ((w2.alloc (Obj.cells #[Value.int IntKind.i64 1, Value.int IntKind.i64 a1] 30)).alloc (Obj.cells #[Value.int IntKind.i64 0, Value.int IntKind.i64 0, Value.int IntKind.i64 0] 89)).drew) := by unfold Hid; (repeat (first | exact Below.refl _ _ | assumption | refine Below.drew ?_ | refine below_many ?_ _ | refine Below.alloc ?_ (by first | (simp; done) | (simp; omega) | omega) _ | refine Below.setCell ?_ (by first | (simp; done) | (simp; omega) | omega) _))
      have HM4 := Lib.hid (((HM2.out.alloc (Obj.cells #[Value.int IntKind.i64 1, Value.int IntKind.i64 a1] 30)).alloc (Obj.cells #[Value.int IntKind.i64 0, Value.int IntKind.i64 0, Value.int IntKind.i64 0] 89)).drew)
      have HR4 : Hid (GrpRng ((w2.alloc (Obj.cells #[Value.int IntKind.i64 1, Value.int IntKind.i64 a1] 30)).alloc (Obj.cells #[Value.int IntKind.i64 0, Value.int IntKind.i64 0, Value.int IntKind.i64 0] 89)).drew mb (w.heap.size + 1) S (l1 ++ l2)) := HR2.out.below (by (repeat (first | exact Below.refl _ _ | assumption | refine Below.drew ?_ | refine below_many ?_ _ | refine Below.alloc ?_ (by first | (simp; done) | (simp; omega) | omega) _ | refine Below.setCell ?_ (by first | (simp; done) | (simp; omega) | omega) _)))
      have HQ0 : Hid (((w2.alloc (Obj.cells #[Value.int IntKind.i64 1, Value.int IntKind.i64 a1] 30)).alloc (Obj.cells #[Value.int IntKind.i64 0, Value.int IntKind.i64 0, Value.int IntKind.i64 0] 89)).drew.cell? ⟨w2.heap.size + 1, 0, none⟩ = some (Value.int IntKind.i64 0)) := by unfold Hid; go_simp
      have HQ1 : Hid (((w2.alloc (Obj.cells #[Value.int IntKind.i64 1, Value.int IntKind.i64 a1] 30)).alloc (Obj.cells #[Value.int IntKind.i64 0, Value.int IntKind.i64 0, Value.int IntKind.i64 0] 89)).drew.cell? ⟨w2.heap.size + 1, 1, none⟩ = some (Value.int IntKind.i64 0)) := by unfold Hid; go_simp
      have HQ2 : Hid (((w2.alloc (Obj.cells #[Value.int IntKind.i64 1, Value.int IntKind.i64 a1] 30)).alloc (Obj.cells #[Value.int IntKind.i64 0, Value.int IntKind.i64 0, Value.int IntKind.i64 0] 89)).drew.cell? ⟨w2.heap.size + 1, 2, none⟩ = some (Value.int IntKind.i64 0)) := by unfold Hid; go_simp
      have hs4 : w.heap.size + 1 < ((w2.alloc (Obj.cells #[Value.int IntKind.i64 1, Value.int IntKind.i64 a1] 30)).alloc (Obj.cells #[Value.int IntKind.i64 0, Value.int IntKind.i64 0, Value.int IntKind.i64 0] 89)).drew.heap.size := by simp; omega
      have HA1 : Hid (isAmt ((mget (sumsOf (lvl (capC lm) toC done)) (toC (a1, a2, a3))).getD 0) = true) := by
        unfold Hid
        rw [sumsOf_getD]
        have h1 := hO.out (toC (a1, a2, a3))
        have h2 := sumBy_nonneg (lvl_nonneg (S := done) (cap := capC lm) toC (fun _ _ h => cut_nonneg _ h) (fun q hq => (HN.out q (HPn.out.subset (by simp [hq]))).1)) (toC (a1, a2, a3))
        exact decide_eq_true (by omega)
      have HA2 : Hid (isAmt (capC lm (a1, a2, a3) v) = true) := cut_isAmt _ hv0 hv1
      have HSD : Hid ((mget (sumsOf (lvl (capC lm) toC done)) (toC (a1, a2, a3))).getD 0 = sumBy (lvl (capC lm) toC done) (toC (a1, a2, a3))) := sumsOf_getD _ _
      by_cases hov : sumBy (lvl (capC lm) toC done) (toC (a1, a2, a3)) + capC lm (a1, a2, a3) v ≤ 1000000000000000
      · have HOV := Lib.hid hov
        clear hov HM2 HR2 hB2
        go_region_with (first
          | (go_at_call 70; refine (capped_at (HC.out.below HB4.out) 1 a1 v (by decide) HGW.out.1).mono ?_; rintro e w3 ⟨rfl, hb3⟩; have hq0 := (hb3.cell (p := ⟨w2.heap.size + 1, 0, none⟩) (by simp)).trans HQ0.out; have hq1 := (hb3.cell (p := ⟨w2.heap.size + 1, 1, none⟩) (by simp)).trans HQ1.out; have hq2 := (hb3.cell (p := ⟨w2.heap.size + 1, 2, none⟩) (by simp)).trans HQ2.out; have HM5 := Lib.hid (HM4.out.below hb3); have HR5 := Lib.hid (HR4.out.below hb3); have HB5 := Lib.hid (HB4.out.trans (hb3.mono HB4.out.size)); have hs5 : w.heap.size + 1 < w3.heap.size := Nat.lt_of_lt_of_le hs4 hb3.size; clear hb3)
          | (go_at_call 34; refine (grpAdd_calls (HE.out.below (HB5.out.mono HE.out.size)) h3 HM5.out (toC (a1, a2, a3)) (gwf_to3 HGW.out) (capC lm (a1, a2, a3) v) HA1.out HA2.out).mono ?_; rintro e w6 (⟨_, rfl, hM6, hK6⟩ | ⟨g1, _⟩); rotate_left; exact absurd g1 (by rw [HSD.out]; exact Int.not_lt.2 HOV.out)))
        all_goals
          have HM6 := Lib.hid hM6
          have hB6 : Below w.heap.size w w6 := HB5.out.trans (hK6.below HB5.out.size (fun k hk e => by omega))
          have HR6 := Lib.hid (HR5.out.keep hK6 (by omega) (fun b' hb' => HMB.out b' hb'))
          have hs6 : w.heap.size + 1 < w6.heap.size := Nat.lt_of_lt_of_le hs5 hK6.size
          have HB6 := Lib.hid hB6
          clear hM6 hK6 hB6 hq0 hq1 hq2 HM5 HR5 HB5 hs5
          go_wp2_with fail
          go_roundw
          case rel => exact ⟨done ++ [((a1, a2, a3), v)], l1 ++ l2, HR6, HPn, by rw [lvl_sums]; exact HM6, HB6, step_next hO.out HOV.out, hs6⟩
          case measure => rw [HR6.out.left_eq, HRL.out]; simp
      · have HOV := Lib.hid (Int.not_le.1 hov)
        clear hov HM2 HR2 hB2
        go_region_with (first
          | (go_at_call 70; refine (capped_at (HC.out.below HB4.out) 1 a1 v (by decide) HGW.out.1).mono ?_; rintro e w3 ⟨rfl, hb3⟩; have hq0 := (hb3.cell (p := ⟨w2.heap.size + 1, 0, none⟩) (by simp)).trans HQ0.out; have hq1 := (hb3.cell (p := ⟨w2.heap.size + 1, 1, none⟩) (by simp)).trans HQ1.out; have hq2 := (hb3.cell (p := ⟨w2.heap.size + 1, 2, none⟩) (by simp)).trans HQ2.out; have HM5 := Lib.hid (HM4.out.below hb3); have HR5 := Lib.hid (HR4.out.below hb3); have HB5 := Lib.hid (HB4.out.trans (hb3.mono HB4.out.size)); have hs5 : w.heap.size + 1 < w3.heap.size := Nat.lt_of_lt_of_le hs4 hb3.size; clear hb3)
          | (go_at_call 34; refine (grpAdd_calls (HE.out.below (HB5.out.mono HE.out.size)) h3 HM5.out (toC (a1, a2, a3)) (gwf_to3 HGW.out) (capC lm (a1, a2, a3) v) HA1.out HA2.out).mono ?_; rintro e w6 (⟨g1, _⟩ | ⟨_, rfl, hb6⟩); exact absurd g1 (by rw [HSD.out]; exact Int.not_le.2 HOV.out)))
        all_goals
          have HB6 := Lib.hid (HB5.out.trans (hb6.mono HB5.out.size))
          clear hb6 hq0 hq1 hq2 HM5 HR5 HB5 hs5
          go_wp2_with fail
          go_ret2
          exact ⟨HB6.out, .inl ⟨step_over hP HPn.out (fun q hq => (HN.out q hq).1) (fun _ _ h => cut_nonneg _ h) HOV.out, rfl⟩⟩

end Go.Proofs.YtkdmedmlbglgmaaDoor
