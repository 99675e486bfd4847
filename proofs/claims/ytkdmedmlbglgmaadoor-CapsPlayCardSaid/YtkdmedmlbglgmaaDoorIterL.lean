/- slices.Collect(maps.Keys(m)) at a map by pledge/caps.Limit: the keys, each once, in some order, as a new slice. (Written by gen_iter.py.) -/
import Derived.Test.YtkdmedmlbglgmaaDoorIter
import Derived.Test.YtkdmedmlbglgmaaDoorCaps
import Derived.Shelf.SlIter.Collect
import Derived.RangeFuncBox
namespace Go.Proofs.YtkdmedmlbglgmaaDoor
open Go.Maps Go.Shelf
open Go Go.RowKit
set_option linter.unusedSimpArgs false
set_option linter.unusedVariables false

set_option maxRecDepth 100000 in
set_option maxHeartbeats 1000000 in
theorem keysItL (F : Fence) (n : Nat) (hF : F.fn 73) (hro : F.round = none) (hn : 1 ≤ n) (l Bm : Nat) {mb : Option Nat} {m : List ((Int × Int) × Int)} (J : List (Int × Int) → World → Prop)
    (hY : ∀ pre x W, J pre W → pre.length < m.length → YieldAt F (n - 1) Tryd.prog l #[pairV x] W fun e W' => e = .returned (.bool true) ∧ J (pre ++ [x]) W' ∧ KeepsWalks W W')
    (W : World) (hJ : AbidesFrom W.heap.size J) (hm : W.cell? ⟨Bm, 0, none⟩ = some (.map mb)) (hown : LimMap W mb m) (h0 : J [] W) :
    CallsIn F n Tryd.prog 73 #[.func (.yield l) #[] #[], .pointer (some ⟨Bm, 0, none⟩)] W fun e W' => (∃ v, e = .returned v) ∧ ∃ ss : List (Int × Int), ss.Perm (m.map (·.1)) ∧ J ss W' := by
  refine callsIn_of_wp Tryd.func73 rfl hF ?_ hro
  simp only [Tryd.ntmps73, List.size_toArray, List.length_cons, List.length_nil, Nat.reduceAdd, Nat.reduceSub, Array.replicate_succ, Array.replicate_zero, List.push_toArray, List.append_toArray, List.nil_append, List.cons_append]
  gi_wp2_with (first
    | (gi_at_range; refine wpListIn_rng _ rfl _ 23 rfl _ Tryd.underlying23 rfl hown W.heap.size rfl ?_; intro ob hrg0)
    | gi_in)
  go_frame
  gi_loopw [3] (fun _ wr => ∃ (left : List ((Int × Int) × Int)) (ss : List (Int × Int)), Rng Tryd.prog 30 pairV i64V wr mb W.heap.size m left ∧ (ss ++ left.map (·.1)).Perm (m.map (·.1)) ∧ J ss wr)
    (fun _ wr => rleft wr mb W.heap.size)
  case atStart => exact ⟨m, [], hrg0, by simp, hJ [] W _ none h0 (World.grownBy_alloc W ob none) (fun r e => by cases e)⟩
  case round =>
    obtain ⟨left, ss, hrg, hp, hJs⟩ := hrel
    gi_wp2_with (first
      | (gi_at_next; refine wpListIn_rng_next _ rfl _ rfl rfl hrg ?_ ?_)
      | gi_in)
    · intro hl
      subst hl
      gi_wp2
      go_end0
      exact ⟨⟨_, rfl⟩, ss, by simpa using hp, hJs⟩
    · intro a b c l1 l2 w2 hl hrg2 hk2 hs2 hen
      subst hl
      have hJ2 : J ss w2 := hJ ss wr w2 (some W.heap.size) hJs (grown_of_keep hk2) (fun r e => by cases e; exact ⟨Nat.le_refl _, hrg.iter_walk⟩)
      have hJ3 : J ss (w2.alloc (.cells #[.int .i64 a, .int .i64 b] 30)) := hJ ss w2 _ none hJ2 (World.grownBy_alloc _ _ none) (fun r e => by cases e)
      have hrg3 := hrg2.below ((Below.refl _ w2).alloc (Nat.le_refl _) (.cells #[.int .i64 a, .int .i64 b] 30))
      have hlen : ss.length < m.length := by
        have := hp.length_eq
        simp at this
        omega
      obtain ⟨fn, tmps, assign, body, hy, hR⟩ := hY ss (a, b) _ hJ3 hlen
      have hle : rleft wr mb W.heap.size = (l1 ++ ((a, b), c) :: l2).length := hrg.left_eq
      have HH := Lib.hid (And.intro hs2 (And.intro hlen (And.intro hrg hle)))
      clear hs2 hlen hrg hle
      gi_wp2
      refine hR.mono ?_
      rintro e W3 ⟨rfl, hJ4, hk3⟩
      gi_wp2
      have hrg4 := hrg3.walks hk3
      go_roundw
      case rel => exact ⟨l1 ++ l2, ss ++ [(a, b)], hrg4, by
        refine List.Perm.trans ?_ hp
        simp only [List.map_append, List.map_cons, List.append_assoc, List.singleton_append]
        exact List.Perm.append_left ss (List.perm_middle.symm), hJ4⟩
      case measure =>
        rw [hrg4.left_eq, HH.out.2.2.2]
        simp

theorem keysGivesL (F : Fence) (n : Nat) (hF : F.fn 73) (hro : F.round = none) (hn : 1 ≤ n) (Bm : Nat) {mb : Option Nat} {m : List ((Int × Int) × Int)} (w : World) (hBm : Bm < w.heap.size)
    (hm : w.cell? ⟨Bm, 0, none⟩ = some (.map mb)) (hown : LimMap w mb m) :
    SeqGives F n Tryd.prog 73 #[.pointer (some ⟨Bm, 0, none⟩)] pairV (fun ss => ss.Perm (m.map (·.1))) m.length w := fun l J W hW hJ hY h0 =>
  keysItL F n hF hro hn l Bm J hY W hJ ((hW.cell (p := ⟨Bm, 0, none⟩) hBm).trans hm) (hown.below hW) h0

theorem keysL_calls (mb : Option Nat) (w : World) : Calls Tryd.prog 40 #[.map mb] w fun e w' =>
    e = .returned (.func (.func 73) #[] #[.pointer (some ⟨w.heap.size, 0, none⟩)]) ∧ w' = w.alloc (.cells #[.map mb] 23) := by
  go_enter Tryd.func40, Tryd.ntmps40
  go_wp2
  go_ret
  exact ⟨rfl, rfl⟩

theorem infoL : (Tryd.prog.info? 30).map (fun i => (i.zero, i.size, i.bytes)) = some (some (.agg #[.int .i64 0, .int .i64 0]), 2, 16) := by kernel_rfl

set_option maxRecDepth 100000 in
set_option maxHeartbeats 2000000 in
theorem appendSeqL (F : Fence) (n : Nat) (hF : F.fn 90) (hro : F.round = none) (hn : 2 ≤ n) (g : Nat) (lb : Array Value) (hFg : F.fn g) (eg : ∀ args w, (callFunc g args).run Tryd.prog w = .ok (.enter g args) w)
    (S : List (Int × Int) → Prop) (N : Nat) (hN : N ≤ 10000) (w : World) (hseq : SeqGives F (n - 1) Tryd.prog g lb pairV S N w) :
    CallsIn F n Tryd.prog 90 #[.slice none 0 0, .func (.func g) #[] lb] w fun e w' => ∃ (v : Value) (ss : List (Int × Int)), e = .returned v ∧ S ss ∧ w'.ownsRow w.heap.size 30 2 v ss.length (pCells ss) ∧ Below w.heap.size w w' := by
  have h1 : 1 ≤ n := by omega
  refine callsIn_of_wp_marks Tryd.func90 rfl hF ?_ hro
  simp only [Tryd.ntmps90, List.size_toArray, List.length_cons, List.length_nil, Nat.reduceAdd, Nat.reduceSub, Array.replicate_succ, Array.replicate_zero, List.push_toArray, List.append_toArray, List.nil_append, List.cons_append]
  gi_wp2
  obtain ⟨W0, hW0⟩ : ∃ W0, w.alloc (.cells #[.slice none 0 0] 35) = W0 := ⟨_, rfl⟩
  have hbx : Boxed W0 w.heap.size 35 (.slice none 0 0) := by rw [← hW0]; exact Boxed.new _ _ _
  have hb0 : Below w.heap.size w W0 := by rw [← hW0]; exact (Below.refl _ w).alloc (Nat.le_refl _) _
  have hs0 : W0.heap.size = w.heap.size + 1 := by rw [← hW0]; simp
  rw [hW0]
  refine wpIn_rangeFunc_var hro h1 (gf := g) (lb := lb) rfl hFg eg (N := N) (w0 := w) hseq hb0 rfl
    (fun ss W => (∃ v, Boxed W w.heap.size 35 v ∧ W.ownsRow w.heap.size 30 2 v ss.length (pCells ss)) ∧ Below w.heap.size w W) ?hI
    (fun p W => (∃ d v, p.2.2 = { tmps := #[.slice none 0 0, .func (.func g) #[] lb, .pointer (some ⟨w.heap.size, 0, none⟩), undef, .slice none 0 0, .pointer (some ⟨d, 0, none⟩), .func (.func g) #[] lb, pairV p.2.1, undef, undef, undef, undef, undef], defers := [] } ∧ w.heap.size ≤ d ∧ d < W.heap.size ∧
      W.heap[d]? = some (.cells #[.int .i64 p.2.1.1, .int .i64 p.2.1.2] 30 (0, 0)) ∧ Boxed W w.heap.size 35 v ∧ W.ownsRow w.heap.size 30 2 v p.1.length (pCells p.1)) ∧ Below w.heap.size w W) ?hM
    ⟨⟨_, hbx, rfl, .inl ⟨rfl, rfl⟩⟩, hb0⟩ ?assign ?body ?done
  case hI =>
    rintro s A B row ⟨⟨v, hv, hr⟩, hb⟩ hg hrow
    have hrow' : ∀ r, row = some r → ∃ o : Obj, A.heap[r]? = some o ∧ o.isCells = false := fun r e => (hrow r e).2
    refine ⟨⟨v, hv.kept hg ?_, ownsRow_own hr hg hrow'⟩, hb.grown hg hb.size (fun k e => by have := (hrow k e).1; omega)⟩
    intro e
    obtain ⟨o, ho, hc⟩ := hrow' _ e.symm
    rw [show A.heap[w.heap.size]? = _ from hv] at ho
    cases ho; cases hc
  case hM =>
    rintro s A B row ⟨⟨d, v, ha, hd, hdl, hc, hv, hr⟩, hb⟩ hg hrow
    have hrow' : ∀ r, row = some r → ∃ o : Obj, A.heap[r]? = some o ∧ o.isCells = false := fun r e => (hrow r e).2
    refine ⟨⟨d, v, ha, hd, Nat.lt_of_lt_of_le hdl hg.size, (hg.block d hdl ?_).trans hc, hv.kept hg ?_, ownsRow_own hr hg hrow'⟩, hb.grown hg hb.size (fun k e => by have := (hrow k e).1; omega)⟩
    · intro e
      obtain ⟨o, ho, hc'⟩ := hrow' _ e.symm
      rw [hc] at ho
      cases ho; cases hc'
    · intro e
      obtain ⟨o, ho, hc'⟩ := hrow' _ e.symm
      rw [show A.heap[w.heap.size]? = _ from hv] at ho
      cases ho; cases hc'
  case assign =>
    rintro l pre ⟨x1, x2⟩ W ⟨⟨v, hv, hr⟩, hb⟩ _
    unfold pairV
    gi_wp2_with gi_round_op_a
    refine ⟨KeepsOthers.alloc _ _, ⟨W.heap.size, v, rfl, hb.size, by simp, World.alloc_heap_new W _, hv.alloc _, hr.alloc _⟩, hb.alloc hb.size _⟩
  case body =>
    rintro l pre ⟨x1, x2⟩ a' W ⟨⟨d, v, ha, hd, hdl, hc, hv, hr⟩, hb⟩ hlen
    dsimp only at ha hd hdl hc hv hr hb
    subst ha
    have hsz := hb.size
    have c0 : W.cell? ⟨d, 0, none⟩ = some (.int .i64 x1) := by simp [World.cell?, hc]
    have c1 : W.cell? ⟨d, 1, none⟩ = some (.int .i64 x2) := by simp [World.cell?, hc]
    have cb : W.cell? ⟨w.heap.size, 0, none⟩ = some v := hv.cell
    have hr' := hr.alloc (.cells #[.int .i64 x1, .int .i64 x2] 30)
    obtain ⟨i0, hi, hz0, hz1, hz2⟩ := info_parts infoL
    gi_wp2_with (first
      | (gi_at_builtin; refine wpListIn_append_own _ rfl _ _ 35 rfl w.heap.size 30 i0 (.agg #[.int .i64 0, .int .i64 0]) 2 16 Tryd.underlying35 hi hz0 hz1 hz2 rfl (by decide) _ _ _ rfl hr' ⟨W.heap.size, 0, none⟩ 1 1 [.int .i64 x1, .int .i64 x2] rfl rfl (fun j u h => cells_new2 _ #[.int .i64 x1, .int .i64 x2] _ j u h) (by simp [Value.oneCell']) (by unfold maxLen; omega) (by omega) (by simp; omega) ?_; intro v' w3 hown' hg3 hnil3
         obtain ⟨g3, cap3, rfl⟩ := ownsRow_succ hown'
         obtain ⟨hv3, hv4, hr4, hk4, hb4⟩ := Boxed.appended (tmp := .cells #[.int .i64 x1, .int .i64 x2] 30) hv (by decide) hr hsz (Nat.le_refl _) hown' hg3
         have hc3 := hv3.cell
         have hf3 := hv3.frozen
         go_frame)
      | gi_round_op_a)
    exact ⟨⟨_, hv4, by simpa [pCells_append, pCells] using hr4⟩, hb.trans hb4⟩
  case done =>
    rintro D xs W hD hS ⟨⟨v, hv, hr⟩, hb⟩ hK
    have cb : W.cell? ⟨w.heap.size, 0, none⟩ = some v := hv.cell
    gi_wp2
    refine ⟨by simp, .inl ⟨_, _, rfl, run_takeDeferred hK, ?_⟩⟩
    exact ⟨_, results_tmp rfl _ _ _, v, xs, rfl, hS, ownsRow_putObj hr _ hK rfl, hb.grown (grownBy_putObj' _ _ _) hb.size (fun k e => by cases e; omega)⟩

theorem collectL (F : Fence) (n : Nat) (hF : F.fn 71) (hFa : F.fn 90) (hro : F.round = none) (hn : 3 ≤ n) (g : Nat) (lb : Array Value) (hFg : F.fn g) (eg : ∀ args w, (callFunc g args).run Tryd.prog w = .ok (.enter g args) w)
    (S : List (Int × Int) → Prop) (N : Nat) (hN : N ≤ 10000) (w : World) (hseq : SeqGives F (n - 1 - 1) Tryd.prog g lb pairV S N w) :
    CallsIn F n Tryd.prog 71 #[.func (.func g) #[] lb] w fun e w' => ∃ (v : Value) (ss : List (Int × Int)), e = .returned v ∧ S ss ∧ w'.ownsRow w.heap.size 30 2 v ss.length (pCells ss) ∧ Below w.heap.size w w' := by
  have h1 : 1 ≤ n := by omega
  refine callsIn_of_wp Tryd.func71 rfl hF ?_ hro
  simp only [Tryd.ntmps71, List.size_toArray, List.length_cons, List.length_nil, Nat.reduceAdd, Nat.reduceSub, Array.replicate_succ, Array.replicate_zero, List.push_toArray, List.append_toArray, List.nil_append, List.cons_append]
  gi_wp2_with (gi_at_call 90; refine (appendSeqL F (n - 1) hFa hro (by omega) g lb hFg eg S N hN _ hseq).mono ?_; rintro e w' ⟨v, ss, rfl, hS, hrow, hb⟩)
  go_ret
  exact ⟨v, ss, rfl, hS, hrow, hb⟩

/-- slices.Collect(maps.Keys(m)), behind maps.Keys. -/
theorem collectL_calls {w : World} {mb : Option Nat} {m : List ((Int × Int) × Int)} (h : LimMap w mb m) (hl : m.length ≤ 10000) :
    Calls Tryd.prog 71 #[.func (.func 73) #[] #[.pointer (some ⟨w.heap.size, 0, none⟩)]] (w.alloc (.cells #[.map mb] 23)) fun e w' =>
      ∃ v ss, e = .returned v ∧ ss.Perm (m.map (·.1)) ∧ w'.ownsRow (w.heap.size + 1) 30 2 v ss.length (pCells ss) ∧ Below w.heap.size w w' := by
  have hseq := keysGivesL Fence.wide 3 trivial rfl (by omega) w.heap.size (w.alloc (.cells #[.map mb] 23)) (by simp) (by simp) (h.alloc _)
  have hc := (callsIn_wide (n := 5)).1 (collectL Fence.wide 5 trivial trivial rfl (by omega) _ _ trivial (enters_of Tryd.func73 (by kernel_rfl) rfl) _ _ hl _ hseq)
  refine hc.mono ?_
  rintro e w' ⟨v, ss, rfl, hS, hrow, hb⟩
  exact ⟨v, ss, rfl, hS, by simpa using hrow, ((Below.refl _ w).alloc (Nat.le_refl _) _).trans (hb.mono (by simp))⟩
end Go.Proofs.YtkdmedmlbglgmaaDoor
