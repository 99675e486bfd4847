/- Slices of integers that a call makes itself: append of one element. Over any program. -/
import Derived.Test.YtchbkceconlbkaaGreatDoorMap2
import Derived.Laws.AppendOwn
import Derived.Maps.AppendAt
import Derived.Laws.OwnMore
import Derived.OwnWalk
namespace Go.Proofs.YtchbkceconlbkaaGreatDoor
open Go Go.RowKit
set_option linter.unusedSimpArgs false
set_option linter.unusedVariables false

/-- The slice value v is nil and xs empty, or the call's own row (from block base on) whose elements are xs. -/
def OwnI (E : TypeId) (base : Nat) (w : World) (v : Value) (xs : List Int) : Prop := w.ownsRow base E 1 v xs.length (xs.map i64V)

theorem OwnI.nil (E : TypeId) (base : Nat) (w : World) : OwnI E base w (.slice none 0 0) [] := ⟨rfl, .inl ⟨rfl, rfl⟩⟩
theorem OwnI.empty (E : TypeId) {base : Nat} {w : World} (hb : base ≤ w.heap.size) : OwnI E base (w.alloc (.cells #[] E)) (.slice (some ⟨w.heap.size, 0, none⟩) 0 0) [] :=
  ⟨rfl, .inr ⟨w.heap.size, 0, #[], rfl, hb, heap_alloc_new w _, Nat.le_refl _, by decide, rfl, rfl⟩⟩
theorem OwnI.drew {E : TypeId} {base : Nat} {w : World} {v : Value} {xs : List Int} (h : OwnI E base w v xs) : OwnI E base w.drew v xs := h
theorem grown_of_below {w w' : World} (h : Below w.heap.size w w') : w.grownBy w' none := ⟨h.os, h.tape, h.output, h.size, fun i hi _ => h.block i hi⟩
theorem OwnI.below {E : TypeId} {base : Nat} {w w' : World} {v : Value} {xs : List Int} (h : OwnI E base w v xs) (k : Below w.heap.size w w') : OwnI E base w' v xs :=
  World.ownsRow.kept h (grown_of_below k) (by cases v.ownBlock <;> simp)
theorem OwnI.kept {E : TypeId} {base : Nat} {w w' : World} {v : Value} {xs : List Int} {S : Nat → Prop} (h : OwnI E base w v xs) (k : Keep S w w') (hs : ∀ g, v.ownBlock = some g → ¬ S g) : OwnI E base w' v xs := by
  refine ⟨h.1, ?_⟩
  rcases h.2 with h1 | ⟨g, cap, cur, rfl, hb, hg, hr⟩
  · exact .inl h1
  · exact .inr ⟨g, cap, cur, rfl, hb, (k.block g (Array.getElem?_eq_some_iff.1 hg).1 (hs g rfl)).trans hg, hr⟩
theorem OwnI.block {E : TypeId} {base : Nat} {w : World} {v : Value} {xs : List Int} (h : OwnI E base w v xs) : ∀ g, v.ownBlock = some g → base ≤ g ∧ g < w.heap.size := by
  intro g hg
  rcases h.2 with ⟨h1, _⟩ | ⟨g', cap, cur, h1, hb, hh, _⟩
  · rw [h1] at hg; simp [Value.ownBlock] at hg
  · rw [h1] at hg; simp only [Value.ownBlock, Option.some.injEq] at hg
    subst hg
    exact ⟨hb, (Array.getElem?_eq_some_iff.1 hh).1⟩
theorem OwnI.alloc {E : TypeId} {base : Nat} {w : World} {v : Value} {xs : List Int} (h : OwnI E base w v xs) (o : Obj) : OwnI E base (w.alloc o) v xs :=
  h.below ((Below.refl _ _).alloc (Nat.le_refl _) o)
theorem OwnI.len {E : TypeId} {base : Nat} {w : World} {v : Value} {xs : List Int} (h : OwnI E base w v xs) : ∃ a cap, v = .slice a xs.length cap := by
  rcases h.2 with ⟨h1, h2⟩ | ⟨g, cap, cur, h1, _⟩
  · exact ⟨none, 0, by rw [h1, h2]⟩
  · exact ⟨_, cap, h1⟩
theorem OwnI.cells {E : TypeId} {base : Nat} {w : World} {v : Value} {xs : List Int} (h : OwnI E base w v xs) (hne : xs ≠ []) :
    ∃ g cap, v = .slice (some ⟨g, 0, none⟩) xs.length cap ∧ base ≤ g ∧ g < w.heap.size ∧ xs.length ≤ cap ∧ cap ≤ maxLen ∧ (∀ i, i < xs.length → w.cell? ⟨g, i, none⟩ = some (.int .i64 (xs.getD i 0))) ∧ w.frozen? ⟨g, 0, none⟩ = false := by
  have h0 := h
  rcases h.2 with ⟨_, h2⟩ | ⟨g, cap, cur, rfl, hb, hg, h3, h4, h5, h6⟩
  · exact absurd (List.length_eq_zero_iff.1 h2) hne
  · refine ⟨g, cap, rfl, hb, (Array.getElem?_eq_some_iff.1 hg).1, h3, h4, fun i hi => ?_, by simp [World.frozen?, hg]⟩
    rw [World.ownsRow.cellAt h0 i (by omega)]
    simp [hi, List.getD]

section
variable {P : Program} {ops : Array Oper} {rest : List Oper} {o : Oper} {a : Act} {Q : Exit → Act → World → Prop} {w : World}
/-- 'append(xs, n)' at a slice of the call's own. -/
theorem wpList_app1 (hgd : o.guard = none) (s x : Operand) (t : TypeId) (ho : o.op = .call { callee := .builtin .append, args := #[s, x], argTypes := #[t, t] })
    (E : TypeId) (ht : P.underlying t = some (.slice E)) (hinfo : (P.info? E).map (fun i => (i.zero, i.size, i.bytes)) = some (some (.int .i64 0), 1, 8))
    (base : Nat) (v : Value) (xs : List Int) (hs : a.eval s = v) (hown : OwnI E base w v xs) (g c : Nat) (n : Int) (hx : a.eval x = .slice (some ⟨g, 0, none⟩) 1 c) (hn : w.cell? ⟨g, 0, none⟩ = some (.int .i64 n))
    (hlen : xs.length ≤ 1000000) (hbase : base ≤ w.heap.size)
    (h : ∀ v' w', OwnI E base w' v' (xs ++ [n]) → Below base w w' → wpList P ops Q rest (a.put o.dst v') w') : wpList P ops Q (o :: rest) a w := by
  obtain ⟨i0, hi, hz0, hz1, hz2⟩ := info_parts hinfo
  refine wpList_append_own w hgd s x t ho base E i0 (.int .i64 0) 1 8 ht hi hz0 hz1 hz2 rfl (by decide) v xs.length (xs.map i64V) hs hown ⟨g, 0, none⟩ 1 c [.int .i64 n] hx rfl ?_ (by simp [Value.oneCell']) (by unfold maxLen; omega) (by omega) hbase ?_
  · intro j u hj
    cases j with
    | zero => simp only [List.getElem?_cons_zero, Option.some.injEq] at hj; rw [← hj]; simpa [Addr.add] using hn
    | succ j => simp at hj
  · intro v' w' h1 h2 _
    refine h v' w' ?_ ?_
    · unfold OwnI
      rw [List.map_append, List.length_append]
      exact h1
    · refine (Below.refl base w).grown h2 hbase fun k hk => ?_
      rcases hown.2 with ⟨h3, _⟩ | ⟨g', cap, cur, h3, hb, _⟩
      · rw [h3] at hk; simp [Value.ownBlock] at hk
      · rw [h3] at hk; simp [Value.ownBlock] at hk; omega
/-- The same, and what else is kept, and where it lies now. -/
theorem wpList_app1b (hgd : o.guard = none) (s x : Operand) (t : TypeId) (ho : o.op = .call { callee := .builtin .append, args := #[s, x], argTypes := #[t, t] })
    (E : TypeId) (ht : P.underlying t = some (.slice E)) (hinfo : (P.info? E).map (fun i => (i.zero, i.size, i.bytes)) = some (some (.int .i64 0), 1, 8))
    (base : Nat) (v : Value) (xs : List Int) (hs : a.eval s = v) (hown : OwnI E base w v xs) (g c : Nat) (n : Int) (hx : a.eval x = .slice (some ⟨g, 0, none⟩) 1 c) (hn : w.cell? ⟨g, 0, none⟩ = some (.int .i64 n))
    (hlen : xs.length ≤ 1000000) (hbase : base ≤ w.heap.size)
    (h : ∀ v' w', OwnI E base w' v' (xs ++ [n]) → Keep (fun x => v.ownBlock = some x) w w' → (v'.ownBlock = v.ownBlock ∨ v'.ownBlock = some w.heap.size) → wpList P ops Q rest (a.put o.dst v') w') : wpList P ops Q (o :: rest) a w := by
  obtain ⟨i0, hi, hz0, hz1, hz2⟩ := info_parts hinfo
  refine wpList_append_own_at w hgd s x t ho base E i0 (.int .i64 0) 1 8 ht hi hz0 hz1 hz2 rfl (by decide) v xs.length (xs.map i64V) hs hown ⟨g, 0, none⟩ 1 c [.int .i64 n] hx rfl ?_ (by simp [Value.oneCell']) (by unfold maxLen; omega) (by omega) hbase ?_
  · intro j u hj
    cases j with
    | zero => simp only [List.getElem?_cons_zero, Option.some.injEq] at hj; rw [← hj]; simpa [Addr.add] using hn
    | succ j => simp at hj
  · intro v' w' h1 h2 _ h4
    refine h v' w' ?_ ⟨h2.os, h2.tape, h2.output, h2.size, fun k hk hs => h2.block k hk (fun e => hs e.symm)⟩ h4
    unfold OwnI
    rw [List.map_append, List.length_append]
    exact h1
/-- 'append(xs, ys...)' at a slice of the call's own, as a step of a region that draws its order. -/
theorem step_appI {K : Act → World → Prop} {E' : Prop} (hgd : o.guard = none) (s x : Operand) (t : TypeId) (ho : o.op = .call { callee := .builtin .append, args := #[s, x], argTypes := #[t, t] })
    (E : TypeId) (ht : P.underlying t = some (.slice E)) (hinfo : (P.info? E).map (fun i => (i.zero, i.size, i.bytes)) = some (some (.int .i64 0), 1, 8))
    (base : Nat) (v : Value) (xs ys : List Int) (hs : a.eval s = v) (hown : OwnI E base w v xs) (ad : Addr) (m c : Nat) (hx : a.eval x = .slice (some ad) m c) (hm : ys.length = m) (hn : ∀ i, i < ys.length → w.cell? (ad.add i) = some (.int .i64 (ys.getD i 0)))
    (hlen : xs.length + ys.length ≤ 1000000) (hbase : base ≤ w.heap.size)
    (h : ∀ v' w', OwnI E base w' v' (xs ++ ys) → Below base w w' → K (a.put o.dst v') w') : if Region.wanted o (yielded ops a.tmps) = true then Oper.wp P o a w K Q else E' := by
  have hw : Region.wanted o (yielded ops a.tmps) = true := by simp [Region.wanted, hgd]
  rw [if_pos hw]
  subst hm
  obtain ⟨i0, hi, hz0, hz1, hz2⟩ := info_parts hinfo
  obtain ⟨v', w', hrun, r1, r2, _⟩ := run_append_own (P := P) w base t o.type E i0 (.int .i64 0) 1 8 ht hi hz0 hz1 hz2 rfl (by decide) v xs.length (xs.map i64V) hown ad ys.length c (ys.map i64V) (by simp)
    (by
      intro j u hj
      rw [List.getElem?_map] at hj
      by_cases hjl : j < ys.length
      · rw [List.getElem?_eq_getElem hjl] at hj
        simp only [Option.map_some, Option.some.injEq] at hj
        rw [hn j hjl, ← hj]
        simp [i64V, List.getD, hjl]
      · rw [List.getElem?_eq_none (by omega)] at hj; simp at hj)
    (by intro u hu; obtain ⟨n, _, rfl⟩ := List.mem_map.1 hu; rfl)
    (by unfold maxLen; omega) (by omega) hbase
  unfold Oper.wp
  simp [execOp, ho, resolve, invoke, builtin, hs, hx, hrun, Result.andThen]
  refine h v' w' ?_ ?_
  · unfold OwnI
    rw [List.map_append, List.length_append]
    exact r1
  · refine (Below.refl base w).grown r2 hbase fun k hk => ?_
    rcases hown.2 with ⟨h3, _⟩ | ⟨g', cap, cur, h3, hb, _⟩
    · rw [h3] at hk; simp [Value.ownBlock] at hk
    · rw [h3] at hk; simp [Value.ownBlock] at hk; omega
end
end Go.Proofs.YtchbkceconlbkaaGreatDoor
