/- Slices of assets that are read alone: nil, or a row from a block's beginning on; append at an own one of whatever slice. -/
import Derived.Test.YtfecgcdceegdlaaDoorOf
namespace Go.Proofs.YtfecgcdceegdlaaDoor
open Go.Maps
open Go Go.RowKit
set_option linter.unusedSimpArgs false
set_option linter.unusedVariables false

/-- v reads as L: nil and empty, or a row. -/
def RdA (w : World) (v : Value) (L : List AS) : Prop :=
  (v = .slice none 0 0 ∧ L = []) ∨
  ∃ g cap, v = .slice (some ⟨g, 0, none⟩) L.length cap ∧ L.length ≤ cap ∧ cap ≤ maxLen ∧ g < w.heap.size ∧ ∀ j u, (asCells L)[j]? = some u → w.cell? ⟨g, j, none⟩ = some u
theorem OwnA.rd {E : TypeId} {base : Nat} {w : World} {v : Value} {L : List AS} (h : OwnA E base w v L) : RdA w v L := by
  have h0 := h
  rcases h.2 with ⟨h1, h2⟩ | ⟨g, cap, cur, rfl, hb, hg, h3, h4, h5, h6⟩
  · exact .inl ⟨h1, List.length_eq_zero_iff.1 h2⟩
  · refine .inr ⟨g, cap, rfl, h3, h4, (Array.getElem?_eq_some_iff.1 hg).1, fun j u hj => ?_⟩
    have hjl := (List.getElem?_eq_some_iff.1 hj).1
    rw [asCells_length] at hjl
    rw [World.ownsRow.cellAt h0 j hjl, hj]
section
variable {w w' : World} {v : Value} {L : List AS}
theorem RdA.nil (w : World) : RdA w (.slice none 0 0) [] := .inl ⟨rfl, rfl⟩
theorem RdA.below (h : RdA w v L) (k : Below w.heap.size w w') : RdA w' v L := by
  rcases h with h | ⟨g, cap, rfl, h1, h2, h3, h4⟩
  · exact .inl h
  · exact .inr ⟨g, cap, rfl, h1, h2, Nat.lt_of_lt_of_le h3 k.size, fun j u hj => (k.cell (p := ⟨g, j, none⟩) h3).trans (h4 j u hj)⟩
theorem RdA.belowB {B : Nat} (h : RdA w v L) (hB : ∀ g, v.ownBlock = some g → g < B) (k : Below B w w') : RdA w' v L := by
  rcases h with h | ⟨g, cap, rfl, h1, h2, h3, h4⟩
  · exact .inl h
  · have hg := hB g rfl
    exact .inr ⟨g, cap, rfl, h1, h2, Nat.lt_of_lt_of_le h3 k.size, fun j u hj => (k.cell (p := ⟨g, j, none⟩) hg).trans (h4 j u hj)⟩
theorem RdA.keep {S : Nat → Prop} (h : RdA w v L) (k : Keep S w w') (hs : ∀ g, v.ownBlock = some g → ¬ S g) : RdA w' v L := by
  rcases h with h | ⟨g, cap, rfl, h1, h2, h3, h4⟩
  · exact .inl h
  · exact .inr ⟨g, cap, rfl, h1, h2, Nat.lt_of_lt_of_le h3 k.size, fun j u hj => (k.cell (x := ⟨g, j, none⟩) h3 (hs g rfl)).trans (h4 j u hj)⟩
theorem RdA.blk (h : RdA w v L) : ∀ g, v.ownBlock = some g → g < w.heap.size := by
  intro g hg
  rcases h with ⟨rfl, _⟩ | ⟨g', cap, rfl, h1, h2, h3, h4⟩
  · simp [Value.ownBlock] at hg
  · simp only [Value.ownBlock, Option.some.injEq] at hg; subst hg; exact h3
theorem RdA.len (h : RdA w v L) : ∃ a cap, v = .slice a L.length cap ∧ L.length ≤ cap ∧ cap ≤ maxLen := by
  rcases h with ⟨rfl, rfl⟩ | ⟨g, cap, rfl, h1, h2, _⟩
  · exact ⟨none, 0, rfl, Nat.le_refl _, Nat.zero_le _⟩
  · exact ⟨_, cap, rfl, h1, h2⟩
/-- Element k's cells. -/
theorem RdA.at (h : RdA w v L) {k : Nat} {x : AS} (hk : L[k]? = some x) : ∃ g cap, v = .slice (some ⟨g, 0, none⟩) L.length cap ∧ g < w.heap.size ∧ L.length ≤ cap ∧ cap ≤ maxLen ∧
    w.cell? ⟨g, k * 5, none⟩ = some (.int .i64 x.1) ∧ w.cell? ⟨g, k * 5 + 1, none⟩ = some (.int .i64 x.2.1) ∧ w.cell? ⟨g, k * 5 + 2, none⟩ = some (.int .i64 x.2.2.1) ∧ w.cell? ⟨g, k * 5 + 3, none⟩ = some (.int .i64 x.2.2.2.1) ∧ w.cell? ⟨g, k * 5 + 4, none⟩ = some (.int .i64 x.2.2.2.2) := by
  rcases h with ⟨_, rfl⟩ | ⟨g, cap, rfl, h1, h2, h3, h4⟩
  · simp at hk
  · obtain ⟨e0, e1, e2, e3, e4⟩ := asCells_get L k x hk
    exact ⟨g, cap, rfl, h3, h1, h2, h4 _ _ e0, h4 _ _ e1, h4 _ _ e2, h4 _ _ e3, h4 _ _ e4⟩
end
theorem asCells_drop : ∀ (L : List AS) (k j : Nat) (u : Value), (asCells (L.drop k))[j]? = some u → (asCells L)[k * 5 + j]? = some u
  | L, 0, j, u, h => by simpa using h
  | [], k + 1, j, u, h => by simp [asCells] at h
  | x :: L, k + 1, j, u, h => by
    rw [List.drop_succ_cons] at h
    have ih := asCells_drop L k j u h
    simp only [asCells]
    rw [show (k + 1) * 5 + j = (k * 5 + j) + 1 + 1 + 1 + 1 + 1 by omega]
    simpa using ih
theorem asCells_take : ∀ (L : List AS) (k j : Nat) (u : Value), (asCells (L.take k))[j]? = some u → (asCells L)[j]? = some u := by
  intro L k j u h
  have := asCells_append (L.take k) (L.drop k)
  rw [List.take_append_drop] at this
  rw [this, List.getElem?_append_left (List.getElem?_eq_some_iff.1 h).1]
  exact h
theorem rda_take {w : World} {g cap k : Nat} {L : List AS} (h : RdA w (.slice (some ⟨g, 0, none⟩) L.length cap) L) (hk : k ≤ L.length) : RdA w (.slice (some ⟨g, 0, none⟩) k cap) (L.take k) := by
  rcases h with ⟨h, _⟩ | ⟨g', cap', hv, h1, h2, h3, h4⟩
  · cases h
  · simp only [Value.slice.injEq, Option.some.injEq, Addr.mk.injEq, true_and, and_true] at hv
    obtain ⟨rfl, rfl⟩ := hv
    have hl : (L.take k).length = k := by rw [List.length_take]; omega
    refine .inr ⟨g, cap, by rw [hl], by rw [hl]; omega, h2, h3, fun j u hj => h4 j u (asCells_take L k j u hj)⟩
theorem rda_drop {w : World} {g cap k : Nat} {L : List AS} (h : RdA w (.slice (some ⟨g, 0, none⟩) L.length cap) L) : ∀ j u, (asCells (L.drop k))[j]? = some u → w.cell? ⟨g, k * 5 + j, none⟩ = some u := by
  intro j u hj
  rcases h with ⟨h, _⟩ | ⟨g', cap', hv, h1, h2, h3, h4⟩
  · cases h
  · simp only [Value.slice.injEq, Option.some.injEq, Addr.mk.injEq, true_and, and_true] at hv
    obtain ⟨rfl, rfl⟩ := hv
    exact h4 _ _ (asCells_drop L k j u hj)

section
variable {P : Program} {ops : Array Oper} {rest : List Oper} {o : Oper} {a : Act} {Q : Exit → Act → World → Prop} {w : World}
/-- 'append(l, m..)' at a slice of the call's own; m nil or a row. -/
theorem wpList_appA_any (hgd : o.guard = none) (s x : Operand) (t : TypeId) (ho : o.op = .call { callee := .builtin .append, args := #[s, x], argTypes := #[t, t] })
    (E : TypeId) (ht : P.underlying t = some (.slice E)) {zc : Value} (hzc : zc.cells.size = 5) (hinfo : (P.info? E).map (fun i => (i.zero, i.size, i.bytes)) = some (some zc, 5, 40))
    (base : Nat) (v : Value) (L Y : List AS) (hs : a.eval s = v) (hown : OwnA E base w v L) (ao : Option Addr) (m c : Nat) (hx : a.eval x = .slice ao m c) (hm : Y.length = m) (hnone : ao = none → m = 0 ∧ c = 0) (hn : ∀ ad, ao = some ad → ∀ j u, (asCells Y)[j]? = some u → w.cell? (ad.add j) = some u)
    (hlen : L.length + Y.length ≤ 1000000) (hbase : base ≤ w.heap.size)
    (h : ∀ v' w', OwnA E base w' v' (L ++ Y) → Keep (fun x => v.ownBlock = some x) w w' → wpList P ops Q rest (a.put o.dst v') w') : wpList P ops Q (o :: rest) a w := by
  cases ao with
  | some ad => exact wpList_appA hgd s x t ho E ht hzc hinfo base v L Y hs hown ad m c hx hm (hn ad rfl) hlen hbase h
  | none =>
    obtain ⟨rfl, rfl⟩ := hnone rfl
    obtain rfl : Y = [] := List.eq_nil_of_length_eq_zero hm
    obtain ⟨i0, hi, hz0, hz1, hz2⟩ := info_parts hinfo
    have hrun := run_append_owned_none (P := P) w base t o.type E i0 5 ht hi v L.length (asCells L) hown
    refine wpList_plain hgd fun K' hK' => ?_
    unfold Oper.wp
    simp [execOp, ho, resolve, invoke, builtin, hs, hx, hrun, Result.andThen]
    exact hK' _ _ (h v w (by simpa using hown) (Keep.refl _ _))
/-- 'append(l, m..)' at a slice of the call's own, as a step of a region that draws its order. -/
theorem step_appA {K : Act → World → Prop} {E' : Prop} (hgd : o.guard = none) (s x : Operand) (t : TypeId) (ho : o.op = .call { callee := .builtin .append, args := #[s, x], argTypes := #[t, t] })
    (E : TypeId) (ht : P.underlying t = some (.slice E)) {zc : Value} (hzc : zc.cells.size = 5) (hinfo : (P.info? E).map (fun i => (i.zero, i.size, i.bytes)) = some (some zc, 5, 40))
    (base : Nat) (v : Value) (L Y : List AS) (hs : a.eval s = v) (hown : OwnA E base w v L) (ad : Addr) (m c : Nat) (hx : a.eval x = .slice (some ad) m c) (hm : Y.length = m) (hn : ∀ j u, (asCells Y)[j]? = some u → w.cell? (ad.add j) = some u)
    (hlen : L.length + Y.length ≤ 1000000) (hbase : base ≤ w.heap.size)
    (h : ∀ v' w', OwnA E base w' v' (L ++ Y) → Keep (fun x => v.ownBlock = some x) w w' → K (a.put o.dst v') w') : if Region.wanted o (yielded ops a.tmps) = true then Oper.wp P o a w K Q else E' := by
  have hw : Region.wanted o (yielded ops a.tmps) = true := by simp [Region.wanted, hgd]
  rw [if_pos hw]
  subst hm
  obtain ⟨i0, hi, hz0, hz1, hz2⟩ := info_parts hinfo
  obtain ⟨v', w', hrun, r1, r2, _⟩ := run_append_own (P := P) w base t o.type E i0 zc 5 40 ht hi hz0 hz1 hz2 hzc (by decide) v L.length (asCells L) hown ad Y.length c (asCells Y) (asCells_length Y) hn (asCells_one Y)
    (by unfold maxLen; omega) (by omega) hbase
  unfold Oper.wp
  simp [execOp, ho, resolve, invoke, builtin, hs, hx, hrun, Result.andThen]
  refine h v' w' ?_ ⟨r2.os, r2.tape, r2.output, r2.size, fun k hk hs => r2.block k hk fun e => hs e.symm⟩
  unfold OwnA
  rw [asCells_append, List.length_append]
  exact r1
end
end Go.Proofs.YtfecgcdceegdlaaDoor
