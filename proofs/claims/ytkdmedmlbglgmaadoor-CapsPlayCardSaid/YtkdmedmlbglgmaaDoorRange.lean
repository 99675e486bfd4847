/- 'for k, v := range m' over a map in memory, in whatever order: what is still to come, as a list; over any program. -/
import Derived.Test.YtkdmedmlbglgmaaDoorMap
import Derived.Maps.RangeWalk
namespace Go.Proofs.YtkdmedmlbglgmaaDoor
open Go.MapKept Go.Maps
open Go.ChangeMaps (setBlock)
open Go Go.RowKit
set_option linter.unusedSimpArgs false
set_option linter.unusedVariables false

section
variable {α β : Type}
variable (P : Program) (K : TypeId) (kv : α → Value) (vv : β → Value)

/-- Block r goes through the map mb; 'left' is still to come. -/
def Rng (w : World) (mb : Option Nat) (r : Nat) (m left : List (α × β)) : Prop :=
  (mb = none ∧ m = [] ∧ left = [] ∧ ∃ since seen c, w.heap[r]? = some (.mapIter none since seen c)) ∨
  ∃ b es clk since seen c0, mb = some b ∧ w.heap[b]? = some (.map es clk) ∧ MRel P K kv vv es clk m ∧ w.heap[r]? = some (.mapIter (some b) since seen c0) ∧
    (∀ x ∈ es.toList, x.born < since) ∧ since ≤ c0 ∧ since ≤ clk ∧ (leftOf es seen).toList.map (fun e => (e.key, e.val)) = left.map (fun x => (kv x.1, vv x.2))

/-- How many are still to come, read off the world. -/
def rleft (w : World) (mb : Option Nat) (r : Nat) : Nat := match mb with | none => 0 | some b => w.rangeLeft b r

variable {P K kv vv} {w : World} {mb : Option Nat} {r : Nat} {m left : List (α × β)}

theorem Rng.left_eq (h : Rng P K kv vv w mb r m left) : rleft w mb r = left.length := by
  rcases h with ⟨rfl, rfl, rfl, _⟩ | ⟨b, es, clk, since, seen, c0, rfl, hb, R, hr, _, _, _, hl⟩
  · rfl
  · have := congrArg List.length hl
    simp only [List.length_map, Array.length_toList] at this
    simp only [rleft, World.rangeLeft, hb, hr]
    exact this

theorem Rng.lt (h : Rng P K kv vv w mb r m left) : r < w.heap.size := by
  rcases h with ⟨_, _, _, _, _, _, hr⟩ | ⟨_, _, _, _, _, _, _, _, _, hr, _⟩
  · exact (Array.getElem?_eq_some_iff.1 hr).1
  · exact (Array.getElem?_eq_some_iff.1 hr).1

theorem Rng.map (h : Rng P K kv vv w mb r m left) : MapV P K kv vv w mb m := by
  rcases h with ⟨h1, h2, _⟩ | ⟨b, es, clk, since, seen, c0, h1, hb, R, _⟩
  · exact .inl ⟨h1, h2⟩
  · exact .inr ⟨b, h1, es, clk, hb, R⟩

theorem Rng.ne (h : Rng P K kv vv w mb r m left) : mb ≠ some r := by
  rcases h with ⟨rfl, _⟩ | ⟨b, es, clk, since, seen, c0, rfl, hb, R, hr, _⟩
  · simp
  · intro e
    cases e
    rw [hb] at hr
    cases hr

theorem Rng.of_heap {w' : World} (h : Rng P K kv vv w mb r m left) (e1 : w'.heap[r]? = w.heap[r]?) (e2 : ∀ b, mb = some b → w'.heap[b]? = w.heap[b]?) : Rng P K kv vv w' mb r m left := by
  rcases h with ⟨h1, h2, h3, a, b, c, hr⟩ | ⟨b, es, clk, since, seen, c0, h1, hb, R, hr, h5, h6, h7, hl⟩
  · exact .inl ⟨h1, h2, h3, a, b, c, e1.trans hr⟩
  · exact .inr ⟨b, es, clk, since, seen, c0, h1, (e2 b h1).trans hb, R, e1.trans hr, h5, h6, h7, hl⟩

theorem Rng.keep {S : Nat → Prop} {w' : World} (h : Rng P K kv vv w mb r m left) (k : Keep S w w') (h1 : ¬ S r) (h2 : ∀ b, mb = some b → ¬ S b) : Rng P K kv vv w' mb r m left :=
  h.of_heap (k.block r h.lt h1) fun b hb => k.block b (h.map.lt b hb) (h2 b hb)

theorem Rng.below {w' : World} (h : Rng P K kv vv w mb r m left) (k : Below w.heap.size w w') : Rng P K kv vv w' mb r m left :=
  h.of_heap (k.block r h.lt) fun b hb => k.block b (h.map.lt b hb)

theorem MapV.range {t e : TypeId} (ht : P.underlying t = some (.map K e)) (h : MapV P K kv vv w mb m) :
    ∃ o : Obj, (Instr.range t (.map mb)).run P w = .ok (.pointer (some ⟨w.heap.size, 0, none⟩)) (w.alloc o) ∧ Rng P K kv vv (w.alloc o) mb w.heap.size m m := by
  rcases h with ⟨rfl, rfl⟩ | ⟨b, rfl, es, clk, hb, R⟩
  · exact ⟨_, run_range_nilMap w t K e ht, .inl ⟨rfl, rfl, rfl, _, _, _, (MapKept.heap_alloc w _).1⟩⟩
  · have hlt : b < w.heap.size := (Array.getElem?_eq_some_iff.1 hb).1
    refine ⟨_, run_range_map w t K e b es clk ht hb, .inr ⟨b, es, clk, clk, #[], clk, rfl, ((MapKept.heap_alloc w _).2 b hlt).trans hb, R, (MapKept.heap_alloc w _).1, R.stamped.1, Nat.le_refl _, Nat.le_refl _, ?_⟩⟩
    rw [← R.pairs]
    simp only [leftOf, Array.toList_filter]
    rw [List.filter_eq_self.2 (fun x _ => by simp)]

theorem leftOf_split {es : Array MapEntry} {clk : Nat} (hs : Stamped es clk) (seen : Array Nat) {l1 l2 : List MapEntry} {e : MapEntry} (h : (leftOf es seen).toList = l1 ++ e :: l2) :
    (leftOf es (seen.push e.born)).toList = l1 ++ l2 := by
  have hst := ((stamped_iff es clk).1 hs).2.1
  have e1 : (leftOf es (seen.push e.born)).toList = (leftOf es seen).toList.filter (fun x => !(x.born == e.born)) := by
    simp only [leftOf, Array.toList_filter, List.filter_filter]
    refine List.filter_congr fun x _ => ?_
    rw [contains_push]
    cases seen.contains x.born <;> cases (x.born == e.born) <;> rfl
  have hn : ((leftOf es seen).toList.map (·.born)).Nodup := by
    have : (leftOf es seen).toList.Sublist es.toList := by simp only [leftOf, Array.toList_filter]; exact List.filter_sublist
    exact (this.map _).nodup hst
  rw [e1, h]
  rw [h, List.map_append, List.map_cons] at hn
  obtain ⟨n1, n2, n3⟩ := List.nodup_append.1 hn
  obtain ⟨n4, n5⟩ := List.nodup_cons.1 n2
  rw [List.filter_append, List.filter_cons]
  simp only [beq_self_eq_true, Bool.not_true, Bool.false_eq_true, if_false]
  congr 1
  · refine List.filter_eq_self.2 fun x hx => ?_
    have := n3 x.born (List.mem_map.2 ⟨x, hx, rfl⟩) e.born (List.mem_cons_self ..)
    simpa using this
  · refine List.filter_eq_self.2 fun x hx => ?_
    have : x.born ≠ e.born := fun e' => n4 (List.mem_map.2 ⟨x, hx, e'⟩)
    simpa using this

/-- The step. -/
theorem Rng.next (h : Rng P K kv vv w mb r m left) (ty : TypeId) :
    (left = [] ∧ (Instr.next (.pointer (some ⟨r, 0, none⟩)) false ty).run P w = .ok (.tuple #[.bool false]) w) ∨
    ∃ x l1 l2 w', left = l1 ++ x :: l2 ∧ (Instr.next (.pointer (some ⟨r, 0, none⟩)) false ty).run P w = .ok (.tuple #[.bool true, kv x.1, vv x.2]) w' ∧
      Rng P K kv vv w' mb r m (l1 ++ l2) ∧ Keep (fun i => i = r) w w' ∧ w'.heap.size = w.heap.size ∧ (Instr.entry (.pointer (some ⟨r, 0, none⟩))).run P w' = .ok (.tuple #[kv x.1, vv x.2]) w' := by
  have hne := h.ne
  rcases h with ⟨rfl, rfl, rfl, s, q, c, hr⟩ | ⟨b, es, clk, since, seen, c0, rfl, hb, R, hr, hold, hsc, hsk, hl⟩
  · refine .inl ⟨rfl, ?_⟩
    simp only [Instr.next, getObj, Sem.run_bind, Sem.run, hr, Result.andThen]
    rfl
  · rcases run_next_at (P := P) w ty r b since c0 seen es clk hr hb hold hsc with ⟨h0, hrun⟩ | ⟨e, he, w1, hal, hrun⟩
    · refine .inl ⟨?_, hrun⟩
      have := congrArg List.length hl
      simp only [List.length_map, Array.length_toList, h0] at this
      exact List.eq_nil_of_length_eq_zero this.symm
    · obtain ⟨a1, a2, ha⟩ := List.append_of_mem he
      rw [ha, List.map_append, List.map_cons] at hl
      obtain ⟨l1, l2', hl1, hm1, hm2⟩ := List.append_eq_map_iff.1 hl
      obtain ⟨x, l2, hx1, hx2, hm3⟩ := List.map_eq_cons_iff.1 hm2
      subst hx1
      obtain ⟨hem, hes⟩ := mem_left he
      have hr1 : w1.heap[r]? = some (.mapIter (some b) since seen c0) := by rcases hal with rfl | rfl <;> exact hr
      have hb1 : w1.heap[b]? = some (.map es clk) := by rcases hal with rfl | rfl <;> exact hb
      have hset := heap_set (o' := .mapIter (some b) since (seen.push e.born) clk) hr1
      have hbr : b ≠ r := fun e => hne (by rw [e])
      have hb' : (setBlock w1 r (.mapIter (some b) since (seen.push e.born) clk)).heap[b]? = some (.map es clk) := (hset.2 b hbr).trans hb1
      have hk : kv x.1 = e.key ∧ vv x.2 = e.val := by simpa using hx2
      refine .inr ⟨x, l1, l2, _, hl1, by rw [hk.1, hk.2]; exact hrun, .inr ⟨b, es, clk, since, seen.push e.born, clk, rfl, hb', R, hset.1, hold, hsk, hsk, ?_⟩, ?_, ?_, ?_⟩
      · rw [leftOf_split R.stamped seen ha, List.map_append, List.map_append, hm1, hm3]
      · rcases hal with rfl | rfl <;> exact ⟨rfl, rfl, rfl, by simp [setBlock], fun i _ hi => hset.2 i hi⟩
      · rcases hal with rfl | rfl <;> simp [setBlock]
      · rw [hk.1, hk.2]
        exact run_entry_at _ r b since seen es clk e hset.1 hb' hem ((stamped_iff es clk).1 R.stamped).2.1

section
variable (w) {ops : Array Oper} {rest : List Oper} {o : Oper} {a : Act} {Q : Exit → Act → World → Prop}

/-- 'range m'. -/
theorem wpList_rng (hg : o.guard = none) (mo : Operand) (t : TypeId) (hop : o.op = Op.range t mo) (e : TypeId) (ht : P.underlying t = some (.map K e))
    (hm : a.eval mo = .map mb) (h : MapV P K kv vv w mb m) (r : Nat) (hr : w.heap.size = r)
    (hK : ∀ ob, Rng P K kv vv (w.alloc ob) mb r m m → wpList P ops Q rest (a.put o.dst (.pointer (some ⟨r, 0, none⟩))) (w.alloc ob)) :
    wpList P ops Q (o :: rest) a w := by
  subst hr
  refine wpList_plain hg fun K' hK' => ?_
  obtain ⟨ob, hrun, r1⟩ := h.range ht
  unfold Oper.wp
  simp [execOp, hop, hm, hrun, Result.andThen]
  exact hK' _ _ (hK ob r1)

/-- The step. -/
theorem wpList_rng_next (hg : o.guard = none) (it : Operand) (hop : o.op = Op.next it false) (hit : a.eval it = .pointer (some ⟨r, 0, none⟩)) (h : Rng P K kv vv w mb r m left)
    (hDone : left = [] → wpList P ops Q rest (a.put o.dst (.tuple #[.bool false])) w)
    (hMore : ∀ x l1 l2 w', left = l1 ++ x :: l2 → Rng P K kv vv w' mb r m (l1 ++ l2) → Keep (fun i => i = r) w w' → w'.heap.size = w.heap.size → (Instr.entry (.pointer (some ⟨r, 0, none⟩))).run P w' = .ok (.tuple #[kv x.1, vv x.2]) w' →
      wpList P ops Q rest (a.put o.dst (.tuple #[.bool true, kv x.1, vv x.2])) w') :
    wpList P ops Q (o :: rest) a w := by
  refine wpList_plain hg fun K' hK' => ?_
  unfold Oper.wp
  rcases h.next o.type with ⟨h0, hrun⟩ | ⟨x, l1, l2, w', hl, hrun, hr, hk, hs, hen⟩
  · simp [execOp, hop, hit, hrun, Result.andThen]
    exact hK' _ _ (hDone h0)
  · simp [execOp, hop, hit, hrun, Result.andThen]
    exact hK' _ _ (hMore x l1 l2 w' hl hr hk hs hen)
end
end
end Go.Proofs.YtkdmedmlbglgmaaDoor
