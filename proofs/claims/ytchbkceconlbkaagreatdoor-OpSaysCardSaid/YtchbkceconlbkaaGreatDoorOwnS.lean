/- Slices of strings that a call makes itself: built, appended to; the iterator of a string. Over any program. -/
import Derived.Test.YtchbkceconlbkaaGreatDoorOwn
import Derived.Laws.RangeAny
namespace Go.Proofs.YtchbkceconlbkaaGreatDoor
open Go Go.RowKit
set_option linter.unusedSimpArgs false
set_option linter.unusedVariables false

/-- The slice value v is the call's own row (from block base on) whose elements are the texts xs. -/
def OwnS (E : TypeId) (base : Nat) (w : World) (v : Value) (xs : List ByteArray) : Prop := w.ownsRow base E 1 v xs.length (xs.map Value.string)
theorem OwnS.nil (E : TypeId) (base : Nat) (w : World) : OwnS E base w (.slice none 0 0) [] := ⟨rfl, .inl ⟨rfl, rfl⟩⟩
theorem OwnS.build (E : TypeId) {base : Nat} {w : World} (hb : base ≤ w.heap.size) (xs : List ByteArray) (hl : xs.length ≤ 1000000) (cs : Array Value) (hc : cs.toList = xs.map Value.string) : OwnS E base (w.alloc (.cells cs E)) (.slice (some ⟨w.heap.size, 0, none⟩) xs.length xs.length) xs := by
  obtain ⟨l⟩ := cs
  simp only at hc
  subst hc
  refine ⟨by simp, .inr ⟨w.heap.size, xs.length, (xs.map Value.string).toArray, rfl, hb, heap_alloc_new w _, Nat.le_refl _, by unfold maxLen; omega, by simp, ?_⟩⟩
  simp only [List.take_of_length_le (show (xs.map Value.string).length ≤ xs.length * 1 by simp), Nat.mul_one]
  simp [List.take_of_length_le (show (xs.map Value.string).length ≤ xs.length by simp)]
section
variable {E : TypeId} {base : Nat} {w w' : World} {v : Value} {xs : List ByteArray}
theorem OwnS.below (h : OwnS E base w v xs) (k : Below w.heap.size w w') : OwnS E base w' v xs :=
  World.ownsRow.kept h (grown_of_below k) (by cases v.ownBlock <;> simp)
theorem OwnS.kept {S : Nat → Prop} (h : OwnS E base w v xs) (k : Keep S w w') (hs : ∀ g, v.ownBlock = some g → ¬ S g) : OwnS E base w' v xs := by
  refine ⟨h.1, ?_⟩
  rcases h.2 with h1 | ⟨g, cap, cur, rfl, hb, hg, hr⟩
  · exact .inl h1
  · exact .inr ⟨g, cap, cur, rfl, hb, (k.block g (Array.getElem?_eq_some_iff.1 hg).1 (hs g rfl)).trans hg, hr⟩
theorem OwnS.block (h : OwnS E base w v xs) : ∀ g, v.ownBlock = some g → base ≤ g ∧ g < w.heap.size := by
  intro g hg
  rcases h.2 with ⟨h1, _⟩ | ⟨g', cap, cur, h1, hb, hh, _⟩
  · rw [h1] at hg; simp [Value.ownBlock] at hg
  · rw [h1] at hg; simp only [Value.ownBlock, Option.some.injEq] at hg
    subst hg
    exact ⟨hb, (Array.getElem?_eq_some_iff.1 hh).1⟩
theorem OwnS.len (h : OwnS E base w v xs) : ∃ a cap, v = .slice a xs.length cap := by
  rcases h.2 with ⟨h1, h2⟩ | ⟨g, cap, cur, h1, _⟩
  · exact ⟨none, 0, by rw [h1, h2]⟩
  · exact ⟨_, cap, h1⟩
theorem OwnS.cells (h : OwnS E base w v xs) (hne : xs ≠ []) :
    ∃ g cap, v = .slice (some ⟨g, 0, none⟩) xs.length cap ∧ base ≤ g ∧ g < w.heap.size ∧ xs.length ≤ cap ∧ cap ≤ maxLen ∧ ∀ (j : Nat) x, xs[j]? = some x → w.cell? ⟨g, j, none⟩ = some (.string x) := by
  have h0 := h
  rcases h.2 with ⟨_, h2⟩ | ⟨g, cap, cur, rfl, hb, hg, h3, h4, h5, h6⟩
  · exact absurd (List.length_eq_zero_iff.1 h2) hne
  · refine ⟨g, cap, rfl, hb, (Array.getElem?_eq_some_iff.1 hg).1, h3, h4, fun j x hj => ?_⟩
    have hjl := (List.getElem?_eq_some_iff.1 hj).1
    rw [World.ownsRow.cellAt h0 j (by omega), List.getElem?_map, hj]
    rfl
end

section
variable {P : Program} {ops : Array Oper} {rest : List Oper} {o : Oper} {a : Act} {Q : Exit → Act → World → Prop} {w : World}
/-- 'append(xs, s)' at a slice of the call's own. -/
theorem wpList_appS (hgd : o.guard = none) (s x : Operand) (t : TypeId) (ho : o.op = .call { callee := .builtin .append, args := #[s, x], argTypes := #[t, t] })
    (E : TypeId) (ht : P.underlying t = some (.slice E)) (hinfo : (P.info? E).map (fun i => (i.zero, i.size, i.bytes)) = some (some (.string ⟨#[]⟩), 1, 16))
    (base : Nat) (v : Value) (xs : List ByteArray) (hs : a.eval s = v) (hown : OwnS E base w v xs) (g c : Nat) (n : ByteArray) (hx : a.eval x = .slice (some ⟨g, 0, none⟩) 1 c) (hn : w.cell? ⟨g, 0, none⟩ = some (.string n))
    (hlen : xs.length ≤ 1000000) (hbase : base ≤ w.heap.size)
    (h : ∀ v' w', OwnS E base w' v' (xs ++ [n]) → Keep (fun x => v.ownBlock = some x) w w' → (v'.ownBlock = v.ownBlock ∨ v'.ownBlock = some w.heap.size) → wpList P ops Q rest (a.put o.dst v') w') : wpList P ops Q (o :: rest) a w := by
  obtain ⟨i0, hi, hz0, hz1, hz2⟩ := info_parts hinfo
  refine wpList_append_own_at w hgd s x t ho base E i0 (.string ⟨#[]⟩) 1 16 ht hi hz0 hz1 hz2 rfl (by decide) v xs.length (xs.map Value.string) hs hown ⟨g, 0, none⟩ 1 c [.string n] hx rfl ?_ (by simp [Value.oneCell']) (by unfold maxLen; omega) (by omega) hbase ?_
  · intro j u hj
    cases j with
    | zero => simp only [List.getElem?_cons_zero, Option.some.injEq] at hj; rw [← hj]; simpa [Addr.add] using hn
    | succ j => simp at hj
  · intro v' w' h1 h2 _ h4
    refine h v' w' ?_ ⟨h2.os, h2.tape, h2.output, h2.size, fun k hk hs => h2.block k hk (fun e => hs e.symm)⟩ h4
    unfold OwnS
    rw [List.map_append, List.length_append]
    exact h1
end

/-- The world in which the iterator at block b stands at place q. -/
def iterAt (w : World) (b : Nat) (s : ByteArray) (q : Nat) : World := { w with heap := w.heap.setIfInBounds b (.stringIter s q) }
theorem iterAt_size (w : World) (b : Nat) (s : ByteArray) (q : Nat) : (iterAt w b s q).heap.size = w.heap.size := by simp [iterAt]
theorem iterAt_heap {w : World} {b : Nat} (hb : b < w.heap.size) (s : ByteArray) (q : Nat) : (iterAt w b s q).heap[b]? = some (.stringIter s q) := by simp [iterAt, hb]
theorem iterAt_keep (w : World) (b : Nat) (s : ByteArray) (q : Nat) : Keep (fun x => x = b) w (iterAt w b s q) :=
  ⟨rfl, rfl, rfl, Nat.le_of_eq (iterAt_size w b s q).symm, fun g hg hs => by simp [iterAt, Array.getElem?_setIfInBounds, Ne.symm hs]⟩
theorem run_next_at {P : Program} {w : World} {b : Nat} {s : ByteArray} {q : Nat} (hb : w.heap[b]? = some (.stringIter s q)) (ty : TypeId) (h : q < s.size) (ha : (s[q]'h).toNat < 128) :
    (Instr.next (.pointer (some ⟨b, 0, none⟩)) true ty).run P w = .ok (.tuple #[.bool true, .int .i64 q, .int .i32 (s[q]'h).toNat]) (iterAt w b s (q + 1)) := by
  simp only [Instr.next, getObj, setObj, Sem.run_bind, Sem.run, hb, Result.andThen, h, if_true, decode_ascii s q h ha]
  simp [goInt, Sem.run, iterAt]
theorem run_next_stop {P : Program} {w : World} {b : Nat} {s : ByteArray} {q : Nat} (hb : w.heap[b]? = some (.stringIter s q)) (ty : TypeId) (h : ¬ q < s.size) :
    (Instr.next (.pointer (some ⟨b, 0, none⟩)) true ty).run P w = .ok (.tuple #[.bool false]) w := by
  simp [Instr.next, getObj, Sem.run, hb, h]
end Go.Proofs.YtchbkceconlbkaaGreatDoor
