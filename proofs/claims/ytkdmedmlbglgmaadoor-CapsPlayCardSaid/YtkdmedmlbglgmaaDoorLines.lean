/- Slices of lines (structs of four int64 cells) that a call makes itself: append. -/
import Derived.Test.YtkdmedmlbglgmaaDoorCapsFirst
import Derived.Test.YtkdmedmlbglgmaaDoorOwn
namespace Go.Proofs.YtkdmedmlbglgmaaDoor
open Go.Maps
open Go Go.RowKit
set_option linter.unusedSimpArgs false
set_option linter.unusedVariables false

theorem lineCells_length (L : List (G × Int)) : (lineCells L).length = L.length * 4 := by
  induction L with
  | nil => rfl
  | cons x L ih => simp only [lineCells, List.length_cons, ih]; omega
theorem lineCells_append (L M : List (G × Int)) : lineCells (L ++ M) = lineCells L ++ lineCells M := by
  induction L with
  | nil => rfl
  | cons x L ih => simp [lineCells, ih]
theorem lineCells_one (L : List (G × Int)) : ∀ u ∈ lineCells L, u.oneCell' = true := by
  induction L with
  | nil => intro u hu; cases hu
  | cons x L ih =>
    intro u hu
    simp only [lineCells, List.mem_cons] at hu
    rcases hu with rfl | rfl | rfl | rfl | hu
    · rfl
    · rfl
    · rfl
    · rfl
    · exact ih u hu
theorem lineCells_of : ∀ (L : List (G × Int)) (j : Nat) (u : Value), (lineCells L)[j]? = some u → ∃ i x, L[i]? = some x ∧ ((j = i * 4 ∧ u = .int .i64 x.1.1) ∨ (j = i * 4 + 1 ∧ u = .int .i64 x.1.2.1) ∨ (j = i * 4 + 2 ∧ u = .int .i64 x.1.2.2) ∨ (j = i * 4 + 3 ∧ u = .int .i64 x.2)) := by
  intro L j u h
  have hj : j < (lineCells L).length := (List.getElem?_eq_some_iff.1 h).1
  rw [lineCells_length] at hj
  have hi : j / 4 < L.length := by omega
  refine ⟨j / 4, L[j / 4], List.getElem?_eq_getElem hi, ?_⟩
  obtain ⟨h0, h1, h2, h3⟩ := lineCells_get L (j / 4) _ (List.getElem?_eq_getElem hi)
  have hm : j % 4 = 0 ∨ j % 4 = 1 ∨ j % 4 = 2 ∨ j % 4 = 3 := by omega
  rcases hm with e | e | e | e
  · have e' : j = j / 4 * 4 := by omega
    rw [← e', h] at h0; exact .inl ⟨e', by simpa using h0⟩
  · have e' : j = j / 4 * 4 + 1 := by omega
    rw [← e', h] at h1; exact .inr (.inl ⟨e', by simpa using h1⟩)
  · have e' : j = j / 4 * 4 + 2 := by omega
    rw [← e', h] at h2; exact .inr (.inr (.inl ⟨e', by simpa using h2⟩))
  · have e' : j = j / 4 * 4 + 3 := by omega
    rw [← e', h] at h3; exact .inr (.inr (.inr ⟨e', by simpa using h3⟩))

def OwnL (E : TypeId) (base : Nat) (w : World) (v : Value) (L : List (G × Int)) : Prop := w.ownsRow base E 4 v L.length (lineCells L)
theorem OwnL.nil (E : TypeId) (base : Nat) (w : World) : OwnL E base w (.slice none 0 0) [] := ⟨rfl, .inl ⟨rfl, rfl⟩⟩
theorem OwnL.empty (E : TypeId) {base : Nat} {w : World} (hb : base ≤ w.heap.size) : OwnL E base (w.alloc (.cells #[] E)) (.slice (some ⟨w.heap.size, 0, none⟩) 0 0) [] :=
  ⟨rfl, .inr ⟨w.heap.size, 0, #[], rfl, hb, heap_alloc_new w _, Nat.le_refl _, by decide, rfl, rfl⟩⟩
section
variable {E : TypeId} {base : Nat} {w w' : World} {v : Value} {L : List (G × Int)}
theorem OwnL.drew (h : OwnL E base w v L) : OwnL E base w.drew v L := h
theorem OwnL.below (h : OwnL E base w v L) (k : Below w.heap.size w w') : OwnL E base w' v L :=
  World.ownsRow.kept h (grown_of_below k) (by cases v.ownBlock <;> simp)
theorem OwnL.kept {S : Nat → Prop} (h : OwnL E base w v L) (k : Keep S w w') (hs : ∀ g, v.ownBlock = some g → ¬ S g) : OwnL E base w' v L := by
  refine ⟨h.1, ?_⟩
  rcases h.2 with h1 | ⟨g, cap, cur, rfl, hb, hg, hr⟩
  · exact .inl h1
  · exact .inr ⟨g, cap, cur, rfl, hb, (k.block g (Array.getElem?_eq_some_iff.1 hg).1 (hs g rfl)).trans hg, hr⟩
theorem OwnL.block (h : OwnL E base w v L) : ∀ g, v.ownBlock = some g → base ≤ g ∧ g < w.heap.size := by
  intro g hg
  rcases h.2 with ⟨h1, _⟩ | ⟨g', cap, cur, h1, hb, hh, _⟩
  · rw [h1] at hg; simp [Value.ownBlock] at hg
  · rw [h1] at hg; simp only [Value.ownBlock, Option.some.injEq] at hg
    subst hg
    exact ⟨hb, (Array.getElem?_eq_some_iff.1 hh).1⟩
theorem OwnL.alloc (h : OwnL E base w v L) (o : Obj) : OwnL E base (w.alloc o) v L := h.below ((Below.refl _ _).alloc (Nat.le_refl _) o)
theorem OwnL.len (h : OwnL E base w v L) : ∃ a cap, v = .slice a L.length cap := by
  rcases h.2 with ⟨h1, h2⟩ | ⟨g, cap, cur, h1, _⟩
  · exact ⟨none, 0, by rw [h1, h2]⟩
  · exact ⟨_, cap, h1⟩
/-- Its cells. -/
theorem OwnL.open (h : OwnL E base w v L) (hne : L ≠ []) :
    ∃ g cap, v = .slice (some ⟨g, 0, none⟩) L.length cap ∧ base ≤ g ∧ g < w.heap.size ∧ L.length ≤ cap ∧ cap ≤ maxLen ∧ (∀ j u, (lineCells L)[j]? = some u → w.cell? ⟨g, j, none⟩ = some u) ∧ (∀ j, w.frozen? ⟨g, j, none⟩ = false) := by
  have h0 := h
  rcases h.2 with ⟨_, h2⟩ | ⟨g, cap, cur, rfl, hb, hg, h3, h4, h5, h6⟩
  · exact absurd (List.length_eq_zero_iff.1 h2) hne
  · refine ⟨g, cap, rfl, hb, (Array.getElem?_eq_some_iff.1 hg).1, h3, h4, fun j u hj => ?_, fun j => by simp [World.frozen?, hg]⟩
    have hjl := (List.getElem?_eq_some_iff.1 hj).1
    rw [lineCells_length] at hjl
    rw [World.ownsRow.cellAt h0 j hjl, hj]
theorem OwnL.lines (h : OwnL E base w v L) : LinesAt w v L := by
  by_cases hne : L = []
  · subst hne
    obtain ⟨a, cap, rfl⟩ := h.len
    rcases h.2 with ⟨h1, _⟩ | ⟨g, cap', cur, h1, hb, hg, h3, h4, _⟩
    · cases h1; exact ⟨_, _, rfl, by simp, by unfold maxLen; omega, .inl rfl⟩
    · cases h1; exact ⟨_, _, rfl, h3, h4, .inl rfl⟩
  · obtain ⟨g, cap, rfl, hb, hg, h1, h2, hc, _⟩ := h.open hne
    refine ⟨_, _, rfl, h1, h2, .inr ⟨g, 0, rfl, hg, fun i x hx => ?_⟩⟩
    obtain ⟨c0, c1, c2, c3⟩ := lineCells_get L i x hx
    rw [show (0 : Nat) + i * 4 = i * 4 by omega]
    exact ⟨hc _ _ c0, hc _ _ c1, hc _ _ c2, hc _ _ c3⟩
end

section
variable {P : Program} {ops : Array Oper} {rest : List Oper} {o : Oper} {a : Act} {Q : Exit → Act → World → Prop} {w : World}
theorem run_appL (t ty E : TypeId) (ht : P.underlying t = some (.slice E)) {zc : Value} (hzc : zc.cells.size = 4) (hinfo : (P.info? E).map (fun i => (i.zero, i.size, i.bytes)) = some (some zc, 4, 32))
    (base : Nat) (v : Value) (L Y : List (G × Int)) (hown : OwnL E base w v L) (ad : Addr) (m c : Nat) (hm : Y.length = m) (hn : ∀ j u, (lineCells Y)[j]? = some u → w.cell? (ad.add j) = some u)
    (hlen : L.length + Y.length ≤ 1000000) (hbase : base ≤ w.heap.size) :
    ∃ v' w', (Builtin.append_ #[t, t] ty #[v, .slice (some ad) m c]).run P w = .ok v' w' ∧ OwnL E base w' v' (L ++ Y) ∧ Keep (fun x => v.ownBlock = some x) w w' := by
  subst hm
  obtain ⟨i0, hi, hz0, hz1, hz2⟩ := info_parts hinfo
  obtain ⟨v', w', hrun, r1, r2, _⟩ := run_append_own (P := P) w base t ty E i0 zc 4 32 ht hi hz0 hz1 hz2 hzc (by decide) v L.length (lineCells L) hown ad Y.length c (lineCells Y) (lineCells_length Y) hn (lineCells_one Y)
    (by unfold maxLen; omega) (by omega) hbase
  refine ⟨v', w', hrun, ?_, ⟨r2.os, r2.tape, r2.output, r2.size, fun k hk hs => r2.block k hk fun e => hs e.symm⟩⟩
  unfold OwnL
  rw [lineCells_append, List.length_append]
  exact r1
/-- 'append(l, m..)' at a slice of the call's own. -/
theorem wpList_appL (hgd : o.guard = none) (s x : Operand) (t : TypeId) (ho : o.op = .call { callee := .builtin .append, args := #[s, x], argTypes := #[t, t] })
    (E : TypeId) (ht : P.underlying t = some (.slice E)) {zc : Value} (hzc : zc.cells.size = 4) (hinfo : (P.info? E).map (fun i => (i.zero, i.size, i.bytes)) = some (some zc, 4, 32))
    (base : Nat) (v : Value) (L Y : List (G × Int)) (hs : a.eval s = v) (hown : OwnL E base w v L) (ad : Addr) (m c : Nat) (hx : a.eval x = .slice (some ad) m c) (hm : Y.length = m) (hn : ∀ j u, (lineCells Y)[j]? = some u → w.cell? (ad.add j) = some u)
    (hlen : L.length + Y.length ≤ 1000000) (hbase : base ≤ w.heap.size)
    (h : ∀ v' w', OwnL E base w' v' (L ++ Y) → Keep (fun x => v.ownBlock = some x) w w' → wpList P ops Q rest (a.put o.dst v') w') : wpList P ops Q (o :: rest) a w := by
  obtain ⟨v', w', hrun, r1, r2⟩ := run_appL (P := P) t o.type E ht hzc hinfo base v L Y hown ad m c hm hn hlen hbase
  refine wpList_plain hgd fun K' hK' => ?_
  unfold Oper.wp
  simp [execOp, ho, resolve, invoke, builtin, hs, hx, hrun, Result.andThen]
  exact hK' _ _ (h v' w' r1 r2)
theorem step_appL {K : Act → World → Prop} {E' : Prop} (hgd : o.guard = none) (s x : Operand) (t : TypeId) (ho : o.op = .call { callee := .builtin .append, args := #[s, x], argTypes := #[t, t] })
    (E : TypeId) (ht : P.underlying t = some (.slice E)) {zc : Value} (hzc : zc.cells.size = 4) (hinfo : (P.info? E).map (fun i => (i.zero, i.size, i.bytes)) = some (some zc, 4, 32))
    (base : Nat) (v : Value) (L Y : List (G × Int)) (hs : a.eval s = v) (hown : OwnL E base w v L) (ad : Addr) (m c : Nat) (hx : a.eval x = .slice (some ad) m c) (hm : Y.length = m) (hn : ∀ j u, (lineCells Y)[j]? = some u → w.cell? (ad.add j) = some u)
    (hlen : L.length + Y.length ≤ 1000000) (hbase : base ≤ w.heap.size)
    (h : ∀ v' w', OwnL E base w' v' (L ++ Y) → Keep (fun x => v.ownBlock = some x) w w' → K (a.put o.dst v') w') : if Region.wanted o (yielded ops a.tmps) = true then Oper.wp P o a w K Q else E' := by
  have hw : Region.wanted o (yielded ops a.tmps) = true := by simp [Region.wanted, hgd]
  rw [if_pos hw]
  obtain ⟨v', w', hrun, r1, r2⟩ := run_appL (P := P) t o.type E ht hzc hinfo base v L Y hown ad m c hm hn hlen hbase
  unfold Oper.wp
  simp [execOp, ho, resolve, invoke, builtin, hs, hx, hrun, Result.andThen]
  exact h v' w' r1 r2
end

theorem infoLine : (Tryd.prog.info? 32).map (fun i => (i.zero, i.size, i.bytes)) = some (some (.agg #[.int .i64 0, .int .i64 0, .int .i64 0, .int .i64 0]), 4, 32) := by kernel_rfl

end Go.Proofs.YtkdmedmlbglgmaaDoor
