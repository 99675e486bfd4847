/- A range over a map inside a fence: what maps.Keys' iterator leans on; a slice of the call's own through an iterator's steps. Over any program. -/
import Derived.Test.YtkdmedmlbglgmaaDoorRange
import Derived.OwnWalkIn
import Derived.Sort.MapsRangeIn
import Derived.RangeFuncFrom
namespace Go.Proofs.YtkdmedmlbglgmaaDoor
open Go.MapKept Go.Maps
open Go Go.RowKit
set_option linter.unusedSimpArgs false
set_option linter.unusedVariables false

section
variable {α β : Type} {P : Program} {K : TypeId} {kv : α → Value} {vv : β → Value} {w : World} {mb : Option Nat} {r : Nat} {m left : List (α × β)}

theorem Rng.walks {w' : World} (h : Rng P K kv vv w mb r m left) (hk : KeepsWalks w w') : Rng P K kv vv w' mb r m left := by
  refine h.of_heap ?_ ?_
  · rcases h with ⟨_, _, _, a, b, c, hr⟩ | ⟨b, es, clk, since, seen, c0, h1, hb, R, hr, _⟩
    · exact (hk.same r _ hr rfl).trans hr.symm
    · exact (hk.same r _ hr rfl).trans hr.symm
  · intro b hb
    rcases h with ⟨h0, _⟩ | ⟨b', es, clk, since, seen, c0, h1, hb', R, hr, _⟩
    · rw [h0] at hb; cases hb
    · rw [h1] at hb; cases hb
      exact (hk.same b _ hb' rfl).trans hb'.symm
theorem Rng.iter_walk (h : Rng P K kv vv w mb r m left) : ∃ o : Obj, w.heap[r]? = some o ∧ o.isWalk = true := by
  rcases h with ⟨_, _, _, a, b, c, hr⟩ | ⟨b, es, clk, since, seen, c0, h1, hb, R, hr, _⟩
  · exact ⟨_, hr, rfl⟩
  · exact ⟨_, hr, rfl⟩
theorem grown_of_keep {w w' : World} {r : Nat} (h : Keep (fun i => i = r) w w') : w.grownBy w' (some r) :=
  ⟨h.os, h.tape, h.output, h.size, fun k hk hn => h.block k hk (fun e => hn (by rw [e]))⟩

variable {F : Fence} {n : Nat}
variable (w) {ops : Array Oper} {rest : List Oper} {o : Oper} {a : Act} {Q : Exit → Act → World → Prop}

/-- 'range m'. -/
theorem wpListIn_rng (hg : o.guard = none) (mo : Operand) (t : TypeId) (hop : o.op = Op.range t mo) (e : TypeId) (ht : P.underlying t = some (.map K e))
    (hm : a.eval mo = .map mb) (h : MapV P K kv vv w mb m) (r : Nat) (hr : w.heap.size = r)
    (hK : ∀ ob, Rng P K kv vv (w.alloc ob) mb r m m → wpListIn F n P ops Q rest (a.put o.dst (.pointer (some ⟨r, 0, none⟩))) (w.alloc ob)) :
    wpListIn F n P ops Q (o :: rest) a w := by
  subst hr
  refine wpListIn_plain hg fun K' hK' => ?_
  obtain ⟨ob, hrun, r1⟩ := h.range ht
  unfold Oper.wpIn
  refine ⟨?_, ?_⟩
  · simp [Oper.about, hop]
  · rw [Oper.semAt_plain F _ _ (by rw [hop]; intro c hc'; cases hc')]
    simp [execOp, hop, hm, hrun, Result.andThen]
    exact hK' _ _ (hK ob r1)

/-- The step. -/
theorem wpListIn_rng_next (hg : o.guard = none) (it : Operand) (hop : o.op = Op.next it false) (hit : a.eval it = .pointer (some ⟨r, 0, none⟩)) (h : Rng P K kv vv w mb r m left)
    (hDone : left = [] → wpListIn F n P ops Q rest (a.put o.dst (.tuple #[.bool false])) w)
    (hMore : ∀ x l1 l2 w', left = l1 ++ x :: l2 → Rng P K kv vv w' mb r m (l1 ++ l2) → Keep (fun i => i = r) w w' → w'.heap.size = w.heap.size → (Instr.entry (.pointer (some ⟨r, 0, none⟩))).run P w' = .ok (.tuple #[kv x.1, vv x.2]) w' →
      wpListIn F n P ops Q rest (a.put o.dst (.tuple #[.bool true, kv x.1, vv x.2])) w') :
    wpListIn F n P ops Q (o :: rest) a w := by
  refine wpListIn_plain hg fun K' hK' => ?_
  unfold Oper.wpIn
  refine ⟨by simp [Oper.about, hop], ?_⟩
  rw [Oper.semAt_plain F _ _ (by rw [hop]; intro c hc'; cases hc')]
  rcases h.next o.type with ⟨h0, hrun⟩ | ⟨x, l1, l2, w', hl, hrun, hr, hk, hs, hen⟩
  · simp [execOp, hop, hit, hrun, Result.andThen]
    exact hK' _ _ (hDone h0)
  · simp [execOp, hop, hit, hrun, Result.andThen]
    exact hK' _ _ (hMore x l1 l2 w' hl hr hk hs hen)
end

/-- A slice that a call has made of its own stays through the turn of a block that is no cells. -/
theorem ownsRow_own {W W' : World} {row : Option Nat} {base : Nat} {e : TypeId} {size : Nat} {v : Value} {k : Nat} {xs : List Value} (h : W.ownsRow base e size v k xs) (hg : W.grownBy W' row)
    (hrow : ∀ r, row = some r → ∃ o : Obj, W.heap[r]? = some o ∧ o.isCells = false) : W'.ownsRow base e size v k xs := by
  refine h.kept hg ?_
  rcases h.2 with ⟨rfl, _⟩ | ⟨g, cap, cur, rfl, _, hgb, _⟩
  · exact .inl rfl
  · refine .inr fun e' => ?_
    obtain ⟨o, ho, hc⟩ := hrow g (by simpa [Value.ownBlock] using e'.symm)
    rw [hgb] at ho; cases ho; cases hc

/-- 'for v := range seq { body }' where the assignment to v lays a block (a struct's own variable) and the body does not leave: I between two rounds, M between the assignment and the body. -/
theorem wpIn_rangeFunc_var {α : Type} {F : Fence} {n : Nat} {P : Program} {g : Operand} {ps : Array Tmp} {assign body : Code} {Q : Exit → Act → World → Prop} {a : Act} {w : World}
    (hro : F.round = none) (h1 : 1 ≤ n) {gf : Nat} {lb : Array Value} (hg : a.eval g = .func (.func gf) #[] lb) (hFg : F.fn gf) (eg : ∀ args w, (callFunc gf args).run P w = .ok (.enter gf args) w)
    {enc : α → Value} {S : List α → Prop} {N : Nat} {w0 : World} (hseq : SeqGives F (n - 1) P gf lb enc S N w0) (hb0 : Below w0.heap.size w0 w) (hps : ps.size = 1)
    (I : List α → World → Prop) (hI : OwnFrom w.heap.size I) (M : List α × α × Act → World → Prop) (hM : OwnFrom w.heap.size M) (h0 : I [] w)
    (hassign : ∀ (l : Nat) (pre : List α) (x : α) (W : World), I pre W → pre.length < N →
      assign.wpIn (F.inRound l) (n - 1 - 1) P (Exit.then (fun a' W' => KeepsOthers W W' ∧ M (pre, x, a') W') (fun _ _ _ => False)) { tmps := (ps.zip #[enc x]).foldl (fun t (p, v) => t.setIfInBounds p v) a.tmps, defers := [] } W)
    (hbody : ∀ (l : Nat) (pre : List α) (x : α) (a' : Act) (W' : World), M (pre, x, a') W' → pre.length < N → body.wpIn (F.inRound l) (n - 1 - 1) P (fun e _ W'' => e = .normal ∧ KeepsOthers W' W'' ∧ I (pre ++ [x]) W'') a' W')
    (hdone : ∀ (D : Nat) (xs : List α) (W : World), w.heap.size ≤ D → S xs → I xs W → W.heap[D]? = some (.deferred (some [])) → Q .normal { a with defers := { target := .collected D, args := #[] } :: a.defers } W) :
    (Code.rangeFunc g ps assign body).wpIn F n P Q a w := by
  refine wpIn_rangeFunc fun fn hfn => ?_
  rw [hro]
  obtain ⟨rec, hrec⟩ : ∃ rec : LoopState → Option Code → Loop, rec = fun st pe => { state := st, pending := pe, fn, tmps := a.tmps, params := ps, assign, body, defers := w.heap.size } := ⟨_, rfl⟩
  obtain ⟨W1, hW1⟩ : ∃ W1, (w.alloc (.deferred (some []))).alloc (.loop (rec .ready none)) = W1 := ⟨_, rfl⟩
  have hL1 : W1.heap[w.heap.size + 1]? = some (.loop (rec .ready none)) := by
    rw [← hW1]
    have := World.alloc_heap_new (w.alloc (.deferred (some []))) (.loop (rec .ready none))
    rwa [World.size_alloc] at this
  have hK1 : W1.heap[w.heap.size]? = some (.deferred (some [])) := by
    rw [← hW1]
    exact (Below.heap_alloc _ _ _ (by simp)).trans (World.alloc_heap_new w _)
  have hI1 : I [] W1 := by rw [← hW1]; exact hI.alloc _ (hI.alloc _ h0)
  have hsz : w.heap.size + 2 = W1.heap.size := by rw [← hW1]; simp
  have hb1 : Below w0.heap.size w0 W1 := by
    rw [← hW1]
    exact hb0.trans ((((Below.refl _ w).alloc (Nat.le_refl _) _).alloc (by simp) _).mono hb0.size)
  refine ⟨w.heap.size + 1, [{ target := .collected w.heap.size, args := #[] }], W1, { target := .fn (.func gf) lb, args := #[.func (.yield (w.heap.size + 1)) #[] #[]] }, W1, gf,
    #[.func (.yield (w.heap.size + 1)) #[] #[]] ++ lb, W1, ?_, ?_, ?_, ?_, fun _ => h1, ?_⟩
  · rw [← hW1, hrec]; exact run_enterLoop_outer _ _ _ _ _
  · simp only [resolve, hg]
    simp [go_sem]
  · intro f' hf'; simp [Target.leads] at hf'; subst hf'; exact hFg
  · simp [invoke, go_sem, eg]
  · refine (hseq (w.heap.size + 1) (fun pre W => I pre W ∧ W.heap[w.heap.size + 1]? = some (.loop (rec .ready none)) ∧ W.heap[w.heap.size]? = some (.deferred (some []))) W1 hb1 ?_ ?_ ⟨hI1, hL1, hK1⟩).mono ?_
    · intro s A B row hs hg' hr
      exact ⟨hI s A B row hs.1 hg' (fun r e => by obtain ⟨hB, o, ho, hw⟩ := hr r e; exact ⟨by omega, o, ho, Obj.not_cells_of_walk hw⟩),
        (grownBy_keeps hg' (fun r e => (hr r e).2) hs.2.1 rfl).trans hs.2.1, (grownBy_keeps hg' (fun r e => (hr r e).2) hs.2.2 rfl).trans hs.2.2⟩
    · rintro pre x W ⟨hi, hl, hk⟩ hlen
      have hy := run_yield (P := P) (args := #[enc x]) hl (by rw [hrec]; simpa using hps.symm)
      rw [hrec] at hy
      refine ⟨fn, _, assign, body, hy, roundIn_of_wpIn hfn (wpIn_mono (hassign _ pre x W hi hlen) ?_)⟩
      rintro e a1 Wa hp
      cases e with
      | normal =>
        obtain ⟨hka, hm⟩ := hp
        have hla := hka.same _ _ hl rfl
        have hlt : w.heap.size + 1 < Wa.heap.size := (Array.getElem?_eq_some_iff.1 hla).1
        obtain ⟨Wb, hWb⟩ : ∃ Wb, Wa.putObj (w.heap.size + 1) (.loop { rec .ready none with state := .busy }) = Wb := ⟨_, rfl⟩
        have hlb : Wb.heap[w.heap.size + 1]? = some (.loop { rec .ready none with state := .busy }) := by rw [← hWb]; exact World.putObj_heap_same hlt
        have hkb : Wb.heap[w.heap.size]? = some (.deferred (some [])) := by rw [← hWb]; exact (World.putObj_heap_other (by omega)).trans (hka.same _ _ hk rfl)
        have hmb : M (pre, x, a1) Wb := by rw [← hWb]; exact hM.putObj _ hm (by omega) hla rfl
        have hwb : KeepsWalks W Wb := hka.walks.trans (by rw [← hWb]; exact KeepsWalks.putObj _ hla rfl)
        refine ⟨Wb, by rw [← hWb]; exact run_beginRound hla (by rw [hrec]), wpIn_mono (hbody _ pre x a1 Wb hmb hlen) ?_⟩
        rintro e a3 Wc ⟨rfl, hkc, hic⟩
        have hlc := hkc.same _ _ hlb rfl
        have hend := run_endRound (P := P) none hlc
        rw [hrec] at hend hlc
        refine ⟨_, _, hend, ?_⟩
        refine ⟨rfl, ⟨hI.putObj _ hic (by omega) hlc rfl, ?_, (World.putObj_heap_other (by omega)).trans (hkc.same _ _ hkb rfl)⟩, hwb.trans (hkc.walks.trans (KeepsWalks.putObj _ hlc rfl))⟩
        rw [hrec]
        exact World.putObj_heap_same (Array.getElem?_eq_some_iff.1 hlc).1
      | ret => exact hp.elim
      | exit id => exact hp.elim
      | goto t => exact hp.elim
      | panic ch => exact hp.elim
      | outgrown => exact hp.elim
    · rintro e W2 ⟨⟨v, rfl⟩, xs, hS, hi, hl, hk⟩
      have hend := run_endLoop (P := P) hl (by rw [hrec]; simp)
      rw [hrec] at hend
      exact ⟨none, _, hend, hdone _ xs _ (Nat.le_refl _) hS (hI.putObj _ hi (by omega) hl rfl) ((World.putObj_heap_other (by omega)).trans hk)⟩

/-- The cells of pairs, one behind the other. -/
def pCells : List (Int × Int) → List Value
  | [] => []
  | x :: L => .int .i64 x.1 :: .int .i64 x.2 :: pCells L
theorem pCells_length (L : List (Int × Int)) : (pCells L).length = L.length * 2 := by
  induction L with
  | nil => rfl
  | cons x L ih => simp only [pCells, List.length_cons, ih]; omega
theorem pCells_append (L M : List (Int × Int)) : pCells (L ++ M) = pCells L ++ pCells M := by
  induction L with
  | nil => rfl
  | cons x L ih => simp [pCells, ih]
theorem cells_new2 (w : World) (cs : Array Value) (E : TypeId) (j : Nat) (u : Value) (h : cs.toList[j]? = some u) : (w.alloc (.cells cs E)).cell? ((⟨w.heap.size, 0, none⟩ : Addr).add j) = some u := by
  rw [show (⟨w.heap.size, 0, none⟩ : Addr).add j = ⟨w.heap.size, j, none⟩ by cases j <;> simp [Addr.add]]
  simp only [World.cell?, World.alloc, Array.getElem?_push, if_true]
  simpa using h
end Go.Proofs.YtkdmedmlbglgmaaDoor
