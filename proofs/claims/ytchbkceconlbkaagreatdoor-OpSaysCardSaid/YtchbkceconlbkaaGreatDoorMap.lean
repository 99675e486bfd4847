/- Maps in memory as lists of pairs in the order of their making: look-up, store, delete, len; over any program. -/
import Derived.Test.YtchbkceconlbkaaGreatDoorLib
import Derived.Maps.Keyed
import Derived.Carry
import Derived.DeepKeys4
import Derived.Deep.Draws
namespace Go.Proofs.YtchbkceconlbkaaGreatDoor
open Go.MapKept Go.Maps
open Go Go.RowKit
set_option linter.unusedSimpArgs false
set_option linter.unusedVariables false

section
variable {α β : Type} [DecidableEq α]

def mget (m : List (α × β)) (k : α) : Option β := (m.find? fun x => decide (x.1 = k)).map (·.2)
def mput (m : List (α × β)) (k : α) (v : β) : List (α × β) := if (mget m k).isSome then m.map (fun x => if x.1 = k then (k, v) else x) else m ++ [(k, v)]
def mdel (m : List (α × β)) (k : α) : List (α × β) := m.filter (fun x => !decide (x.1 = k))

theorem mget_nil (k : α) : mget ([] : List (α × β)) k = none := rfl
theorem mget_none {m : List (α × β)} {k : α} : mget m k = none ↔ ∀ x ∈ m, x.1 ≠ k := by
  simp [mget, List.find?_eq_none]
theorem mget_mem {m : List (α × β)} {k : α} {v : β} (h : mget m k = some v) : (k, v) ∈ m := by
  simp only [mget, Option.map_eq_some_iff] at h
  obtain ⟨x, hx, rfl⟩ := h
  have h1 := List.find?_some hx
  have h2 := List.mem_of_find?_eq_some hx
  simp only [decide_eq_true_eq] at h1
  subst h1
  exact h2
theorem mget_of_mem {m : List (α × β)} (hn : (m.map (·.1)).Nodup) {k : α} {v : β} (h : (k, v) ∈ m) : mget m k = some v := by
  induction m with
  | nil => cases h
  | cons x m ih =>
    obtain ⟨h1, h2⟩ := List.nodup_cons.1 hn
    simp only [mget, List.find?_cons]
    rcases List.mem_cons.1 h with rfl | h
    · simp
    · have : x.1 ≠ k := fun e => h1 (List.mem_map.2 ⟨_, h, e.symm⟩)
      simp only [this, decide_false]
      exact ih h2 h
theorem mget_append {m n : List (α × β)} {k : α} : mget (m ++ n) k = (mget m k).or (mget n k) := by
  simp only [mget, List.find?_append]
  cases m.find? _ <;> simp
theorem mget_map_other (m : List (α × β)) {k j : α} (v : β) (h : j ≠ k) : mget (m.map fun x => if x.1 = k then (k, v) else x) j = mget m j := by
  induction m with
  | nil => rfl
  | cons x m ih =>
    simp only [mget, List.map_cons, List.find?_cons] at ih ⊢
    by_cases e : x.1 = k
    · simp only [e, if_true, show ¬ k = j from fun h' => h h'.symm, decide_false]
      exact ih
    · simp only [if_neg e]
      by_cases e' : x.1 = j
      · simp [e']
      · simp only [e', decide_false]; exact ih
theorem mget_map_same (m : List (α × β)) {k : α} (v : β) (h : (mget m k).isSome) : mget (m.map fun x => if x.1 = k then (k, v) else x) k = some v := by
  induction m with
  | nil => simp [mget] at h
  | cons x m ih =>
    by_cases e : x.1 = k
    · simp [mget, e]
    · have h' : (mget m k).isSome := by simpa [mget, e] using h
      have h2 := ih h'
      have e1 : decide (x.1 = k) = false := decide_eq_false e
      unfold mget at h2 ⊢
      rw [List.map_cons, if_neg e, List.find?_cons, e1]
      exact h2
theorem mget_mput_same (m : List (α × β)) (k : α) (v : β) : mget (mput m k v) k = some v := by
  unfold mput
  split
  · exact mget_map_same m v ‹_›
  · rename_i h
    rw [mget_append]
    have : mget m k = none := by simpa using h
    rw [this]; simp [mget]
theorem mget_mput_other (m : List (α × β)) {k j : α} (v : β) (h : j ≠ k) : mget (mput m k v) j = mget m j := by
  unfold mput
  split
  · exact mget_map_other m v h
  · rw [mget_append]
    have : mget [(k, v)] j = none := by simp [mget]; exact fun e => h e.symm
    rw [this]; simp
theorem mget_mdel_same (m : List (α × β)) (k : α) : mget (mdel m k) k = none := by
  rw [mget_none]
  intro x hx
  have := (List.mem_filter.1 hx).2
  simpa using this
theorem mget_mdel_other (m : List (α × β)) {k j : α} (h : j ≠ k) : mget (mdel m k) j = mget m j := by
  induction m with
  | nil => rfl
  | cons x m ih =>
    simp only [mdel, mget, List.filter_cons, List.find?_cons] at ih ⊢
    by_cases e : x.1 = k
    · simp only [e, decide_true, Bool.not_true, Bool.false_eq_true, if_false, show ¬ k = j from fun h' => h h'.symm, decide_false]
      exact ih
    · simp only [e, decide_false, Bool.not_false, if_true, List.find?_cons]
      by_cases e' : x.1 = j
      · simp [e']
      · simp only [e', decide_false]; exact ih
theorem mkeys_mput (m : List (α × β)) (k : α) (v : β) : (mput m k v).map (·.1) = if (mget m k).isSome then m.map (·.1) else m.map (·.1) ++ [k] := by
  unfold mput
  split
  · rw [List.map_map]
    refine List.map_congr_left (fun x _ => ?_)
    simp only [Function.comp_apply]
    split
    · rename_i h; exact h.symm
    · rfl
  · simp
theorem mnodup_mput {m : List (α × β)} (hn : (m.map (·.1)).Nodup) (k : α) (v : β) : ((mput m k v).map (·.1)).Nodup := by
  rw [mkeys_mput]
  split
  · exact hn
  · rename_i h
    have h' : mget m k = none := by simpa using h
    rw [mget_none] at h'
    refine List.nodup_append.2 ⟨hn, by simp, fun a ha b hb => ?_⟩
    simp only [List.mem_singleton] at hb
    subst hb
    obtain ⟨x, hx, rfl⟩ := List.mem_map.1 ha
    exact h' x hx
theorem mnodup_mdel {m : List (α × β)} (hn : (m.map (·.1)).Nodup) (k : α) : ((mdel m k).map (·.1)).Nodup := (List.filter_sublist.map _).nodup hn
theorem mem_mput {m : List (α × β)} {k : α} {v : β} {x : α × β} (h : x ∈ mput m k v) : x = (k, v) ∨ x ∈ m := by
  unfold mput at h
  split at h
  · obtain ⟨y, hy, rfl⟩ := List.mem_map.1 h
    split
    · exact .inl rfl
    · exact .inr hy
  · rcases List.mem_append.1 h with h | h
    · exact .inr h
    · exact .inl (by simpa using h)
theorem mem_mdel {m : List (α × β)} {k : α} {x : α × β} (h : x ∈ mdel m k) : x ∈ m ∧ x.1 ≠ k := by
  have := List.mem_filter.1 h
  exact ⟨this.1, by simpa using this.2⟩
theorem mdel_erase {m : List (α × β)} (hn : (m.map (·.1)).Nodup) : ∀ {j : Nat} {k : α} {v : β}, m[j]? = some (k, v) → mdel m k = m.eraseIdx j := by
  induction m with
  | nil => intro j k v h; simp at h
  | cons x m ih =>
    intro j k v h5
    obtain ⟨n1, n2⟩ := List.nodup_cons.1 hn
    cases j with
    | zero =>
      simp only [List.getElem?_cons_zero, Option.some.injEq] at h5
      subst h5
      simp only [mdel, List.filter_cons, decide_true, Bool.not_true, Bool.false_eq_true, if_false, List.eraseIdx_zero, List.tail_cons]
      exact List.filter_eq_self.2 fun y hy => by
        have : y.1 ≠ k := fun e => n1 (List.mem_map.2 ⟨y, hy, e⟩)
        simpa using this
    | succ j =>
      simp only [List.getElem?_cons_succ] at h5
      have hx : x.1 ≠ k := fun e => n1 (List.mem_map.2 ⟨_, List.mem_of_getElem? h5, e.symm⟩)
      simp only [mdel, List.filter_cons, hx, decide_false, Bool.not_false, if_true, List.eraseIdx_cons_succ]
      congr 1
      exact ih n2 h5
theorem mlen_mput (m : List (α × β)) (k : α) (v : β) : (mput m k v).length ≤ m.length + 1 := by
  unfold mput
  split <;> simp

end

section
variable {α β : Type}
variable (P : Program) (K : TypeId) (kv : α → Value) (vv : β → Value)

/-- The entries of a map's block are these pairs, in this order. -/
structure MRel (es : Array MapEntry) (clk : Nat) (m : List (α × β)) : Prop where
  pairs : es.toList.map (fun e => (e.key, e.val)) = m.map (fun x => (kv x.1, vv x.2))
  keys : ∀ x ∈ m, ∃ l, keyOf P K (kv x.1) = some l
  stamped : Stamped es clk
def MapAt (w : World) (b : Nat) (m : List (α × β)) : Prop := ∃ es clk, w.heap[b]? = some (.map es clk) ∧ MRel P K kv vv es clk m
/-- A map's value: nil and empty, or a block. -/
def MapV (w : World) (r : Option Nat) (m : List (α × β)) : Prop := (r = none ∧ m = []) ∨ ∃ b, r = some b ∧ MapAt P K kv vv w b m

variable {P K kv vv} {es : Array MapEntry} {clk : Nat} {m : List (α × β)} {w : World} {b : Nat}

theorem MRel.size (R : MRel P K kv vv es clk m) : es.size = m.length := by
  have := congrArg List.length R.pairs
  simpa using this
theorem MRel.at (R : MRel P K kv vv es clk m) {j : Nat} {x : α × β} (h : m[j]? = some x) : ∃ e, es[j]? = some e ∧ e.key = kv x.1 ∧ e.val = vv x.2 := by
  have := congrArg (fun l => l[j]?) R.pairs
  simp only [List.getElem?_map, h, Option.map_some, Option.map_eq_some_iff, Prod.mk.injEq] at this
  obtain ⟨e, he, h1, h2⟩ := this
  exact ⟨e, by simpa using he, h1, h2⟩
theorem MRel.at' (R : MRel P K kv vv es clk m) {j : Nat} {e : MapEntry} (h : es[j]? = some e) : ∃ x, m[j]? = some x ∧ e.key = kv x.1 ∧ e.val = vv x.2 := by
  have := congrArg (fun l => l[j]?) R.pairs
  simp only [List.getElem?_map, Array.getElem?_toList, h, Option.map_some] at this
  obtain ⟨x, hx, he⟩ := Option.map_eq_some_iff.1 this.symm
  simp only [Prod.mk.injEq] at he
  exact ⟨x, hx, he.1.symm, he.2.symm⟩
theorem MRel.nodup (R : MRel P K kv vv es clk m) : (m.map (·.1)).Nodup := by
  have h := R.stamped.2.2
  have e : es.toList.map (·.key) = (m.map (·.1)).map kv := by
    have := congrArg (List.map Prod.fst) R.pairs
    simpa [List.map_map, Function.comp_def] using this
  rw [e] at h
  have := List.pairwise_map.1 h
  exact this.imp fun hne e => hne (by rw [e])
theorem MRel.ekeys (R : MRel P K kv vv es clk m) : ∀ e ∈ es.toList, ∃ l, keyOf P K e.key = some l := by
  intro e he
  obtain ⟨j, hj⟩ := List.mem_iff_getElem?.1 he
  obtain ⟨x, hx, hk, _⟩ := R.at' (j := j) (by simpa using hj)
  rw [hk]
  exact R.keys x (List.mem_of_getElem? hx)

theorem MapAt.block (h : MapAt P K kv vv w b m) : ∃ es clk, w.heap[b]? = some (.map es clk) := by
  obtain ⟨es, clk, hb, _⟩ := h
  exact ⟨es, clk, hb⟩
theorem MapAt.lt (h : MapAt P K kv vv w b m) : b < w.heap.size := by
  obtain ⟨es, clk, hb, _⟩ := h
  exact (Array.getElem?_eq_some_iff.1 hb).1
theorem MapAt.nodup (h : MapAt P K kv vv w b m) : (m.map (·.1)).Nodup := by
  obtain ⟨es, clk, hb, R⟩ := h
  exact R.nodup
theorem MapAt.of_heap {w' : World} (h : MapAt P K kv vv w b m) (e : w'.heap[b]? = w.heap[b]?) : MapAt P K kv vv w' b m := by
  obtain ⟨es, clk, hb, R⟩ := h
  exact ⟨es, clk, e.trans hb, R⟩
theorem MapV.nodup {r : Option Nat} (h : MapV P K kv vv w r m) : (m.map (·.1)).Nodup := by
  rcases h with ⟨_, rfl⟩ | ⟨b, _, h⟩
  · simp
  · exact h.nodup
theorem MapV.of_heap {w' : World} {r : Option Nat} (h : MapV P K kv vv w r m) (e : ∀ b, r = some b → w'.heap[b]? = w.heap[b]?) : MapV P K kv vv w' r m := by
  rcases h with h | ⟨b, hr, h⟩
  · exact .inl h
  · exact .inr ⟨b, hr, h.of_heap (e b hr)⟩
theorem MapV.lt {r : Option Nat} (h : MapV P K kv vv w r m) : ∀ b, r = some b → b < w.heap.size := by
  rintro b rfl
  rcases h with ⟨h, _⟩ | ⟨b', hr, h⟩
  · cases h
  · cases hr; exact h.lt
theorem MapV.keep {S : Nat → Prop} {w' : World} {r : Option Nat} (h : MapV P K kv vv w r m) (k : Keep S w w') (hs : ∀ b, r = some b → ¬ S b) : MapV P K kv vv w' r m :=
  h.of_heap fun b hr => k.block b (h.lt b hr) (hs b hr)

/-- 'len(m)'. -/
theorem MapV.len {t e ty : TypeId} {r : Option Nat} {w : World} {m : List (α × β)} (ht : P.underlying t = some (.map K e)) (h : MapV P K kv vv w r m) : (Builtin.len_ #[t] ty #[.map r]).run P w = .ok (.int .i64 (m.length : Int)) w := by
  rcases h with ⟨rfl, rfl⟩ | ⟨b, rfl, es, clk, hb, R⟩
  · simp [Builtin.len_, run_underlying ht]; rfl
  · simp [Builtin.len_, run_underlying ht, MapKept.run_getObj_map hb, R.size]; rfl

/-- A new map. -/
theorem MapAt.made (w : World) : MapAt (β := β) P K kv vv (w.alloc (.map #[] 0)) w.heap.size [] :=
  ⟨#[], 0, (MapKept.heap_alloc w _).1, rfl, by simp, stamped_empty 0⟩

theorem MapV.alloc {r : Option Nat} {w : World} {m : List (α × β)} (h : MapV P K kv vv w r m) (o : Obj) : MapV P K kv vv (w.alloc o) r m :=
  h.of_heap fun b hr => Below.heap_alloc w o b (h.lt b hr)
theorem MapV.setCell {r : Option Nat} {w : World} {m : List (α × β)} (h : MapV P K kv vv w r m) {a : Addr} {u v : Value} (hc : w.cell? a = some u) : MapV P K kv vv (w.setCell a v) r m :=
  h.of_heap fun b hr => by
    rcases h with ⟨rfl, _⟩ | ⟨b', rfl, hm⟩
    · cases hr
    · cases hr
      obtain ⟨es, clk, hb⟩ := hm.block
      refine Below.heap_setCell w a v b fun e => ?_
      subst e
      simp [World.cell?, hb] at hc
theorem MapV.field {w w' : World} {b o mb : Nat} {m : List (α × β)} (hc : w.cell? ⟨b, o, none⟩ = some (.map (some mb))) (h : MapV P K kv vv w (some mb) m) (hk : Keep (fun x => x = mb) w w') : MapField w w' b o (some mb) (some mb) := by
  have hlt : b < w.heap.size := World.block_lt_of_cell? w ⟨b, o, none⟩ hc
  have hne : ¬ b = mb := by
    rcases h with ⟨h, _⟩ | ⟨b', hr, hm⟩
    · cases h
    · cases hr
      obtain ⟨es, clk, hb⟩ := hm.block
      intro e
      subst e
      simp [World.cell?, hb] at hc
  exact ⟨by rw [hk.cell (x := ⟨b, o, none⟩) hlt hne]; exact hc, fun o' _ => hk.cell (x := ⟨b, o', none⟩) hlt hne, fun o' => hk.frozen (x := ⟨b, o', none⟩) hlt hne, .inl rfl,
    hk.mono fun k _ hk' => .inr (by rw [hk'])⟩
theorem MapV.drewN {r : Option Nat} {w : World} {m : List (α × β)} (h : MapV P K kv vv w r m) (n : Nat) : MapV P K kv vv (w.drewN n) r m := h.of_heap fun _ _ => rfl
theorem MapV.drew {r : Option Nat} {w : World} {m : List (α × β)} (h : MapV P K kv vv w r m) : MapV P K kv vv w.drew r m := h.of_heap fun _ _ => rfl
theorem MapV.below {r : Option Nat} {w w' : World} {m : List (α × β)} (h : MapV P K kv vv w r m) (k : Below w.heap.size w w') : MapV P K kv vv w' r m :=
  h.of_heap fun b hr => k.block b (h.lt b hr)
theorem MapV.belowB {B : Nat} {r : Option Nat} {w w' : World} {m : List (α × β)} (h : MapV P K kv vv w r m) (k : Below B w w') (hb : ∀ b, r = some b → b < B) : MapV P K kv vv w' r m :=
  h.of_heap fun b hr => k.block b (hb b hr)

variable [DecidableEq α]
/-- Finding a key. -/
theorem MRel.find (R : MRel P K kv vv es clk m) (L : Keyed P K) (inj : ∀ a c, kv a = kv c → a = c) {k : α} (hk : ∃ l, keyOf P K (kv k) = some l) (w : World) :
    (mget m k = none ∧ (Instr.findKey K (kv k) es.toList).run P w = .ok none w ∧ ∀ e ∈ es.toList, e.key ≠ kv k) ∨
    ∃ j e v, mget m k = some v ∧ (Instr.findKey K (kv k) es.toList).run P w = .ok (some (j, vv v)) w ∧ es.toList[j]? = some e ∧ e.key = kv k ∧ e.val = vv v ∧ m[j]? = some (k, v) := by
  obtain ⟨l, hl⟩ := hk
  rcases L.find w hl es.toList R.ekeys with ⟨h1, h2⟩ | ⟨j, e, h1, h2, h3⟩
  · refine .inl ⟨mget_none.2 fun x hx hxk => ?_, h1, h2⟩
    obtain ⟨j, hj⟩ := List.mem_iff_getElem?.1 hx
    obtain ⟨e, he, hek, _⟩ := R.at hj
    exact h2 e (List.mem_iff_getElem?.2 ⟨j, by simpa using he⟩) (by rw [hek, hxk])
  · obtain ⟨⟨a, v⟩, hx, hek, hev⟩ := R.at' (j := j) (by simpa using h2)
    have ha : a = k := inj _ _ (by rw [← h3, hek])
    subst ha
    refine .inr ⟨j, e, v, mget_of_mem R.nodup (List.mem_of_getElem? hx), ?_, h2, h3, hev, hx⟩
    rw [h1, hev]

section
variable {t e : TypeId} (L : Keyed P K) (inj : ∀ a c, kv a = kv c → a = c) (ht : P.underlying t = some (.map K e))
include L inj ht

/-- 'm[k]'. -/
theorem MapV.look {r : Option Nat} (h : MapV P K kv vv w r m) {z : Value} (hz : (zeroValue e).run P w = .ok z w) {k : α} (hk : ∃ l, keyOf P K (kv k) = some l) :
    (Instr.lookup t (.map r) (kv k) false).run P w = .ok (((mget m k).map vv).getD z) w := by
  obtain ⟨l, hl⟩ := hk
  rcases h with ⟨rfl, rfl⟩ | ⟨b, rfl, es, clk, hb, R⟩
  · have h1 : (Instr.findKey K (kv k) []).run P w = .ok none w := by
      rcases L.find w hl [] (by simp) with ⟨h1, _⟩ | ⟨j, e, _, h2, _⟩
      · exact h1
      · simp at h2
    simp [Instr.lookup, run_underlying ht, L.check w true hl, h1, hz, Result.andThen, mget_nil]
  · rcases R.find L inj ⟨l, hl⟩ w with ⟨h0, h1, _⟩ | ⟨j, e, v, h0, h1, _⟩
    · simp [Instr.lookup, run_underlying ht, MapKept.run_getObj_map hb, L.check w _ hl, h1, hz, Result.andThen, h0]
    · simp [Instr.lookup, run_underlying ht, MapKept.run_getObj_map hb, L.check w _ hl, h1, Result.andThen, h0]
/-- 'v, ok := m[k]'. -/
theorem MapV.look_ok {r : Option Nat} (h : MapV P K kv vv w r m) {z : Value} (hz : (zeroValue e).run P w = .ok z w) {k : α} (hk : ∃ l, keyOf P K (kv k) = some l) :
    (Instr.lookup t (.map r) (kv k) true).run P w = .ok (.tuple #[((mget m k).map vv).getD z, .bool (mget m k).isSome]) w := by
  obtain ⟨l, hl⟩ := hk
  rcases h with ⟨rfl, rfl⟩ | ⟨b, rfl, es, clk, hb, R⟩
  · have h1 : (Instr.findKey K (kv k) []).run P w = .ok none w := by
      rcases L.find w hl [] (by simp) with ⟨h1, _⟩ | ⟨j, e, _, h2, _⟩
      · exact h1
      · simp at h2
    simp [Instr.lookup, run_underlying ht, L.check w true hl, h1, hz, Result.andThen, mget_nil]
  · rcases R.find L inj ⟨l, hl⟩ w with ⟨h0, h1, _⟩ | ⟨j, e, v, h0, h1, _⟩
    · simp [Instr.lookup, run_underlying ht, MapKept.run_getObj_map hb, L.check w _ hl, h1, hz, Result.andThen, h0]
    · simp [Instr.lookup, run_underlying ht, MapKept.run_getObj_map hb, L.check w _ hl, h1, Result.andThen, h0]

/-- 'm[k] = v' at a map that is not nil. -/
theorem MapAt.store (h : MapAt P K kv vv w b m) {k : α} (v : β) (hk : ∃ l, keyOf P K (kv k) = some l) :
    ∃ o, (Instr.mapUpdate t (.map (some b)) (kv k) (vv v)).run P w = .ok () { w with heap := w.heap.setIfInBounds b o } ∧ MapAt P K kv vv { w with heap := w.heap.setIfInBounds b o } b (mput m k v) := by
  obtain ⟨l, hl⟩ := hk
  obtain ⟨es, clk, hb, R⟩ := h
  have hlt : b < w.heap.size := (Array.getElem?_eq_some_iff.1 hb).1
  have hget : ∀ o : Obj, (w.heap.setIfInBounds b o)[b]? = some o := fun o => by simp [Array.getElem?_setIfInBounds, hlt]
  rcases R.find L inj ⟨l, hl⟩ w with ⟨h0, h1, h2⟩ | ⟨j, e, u, h0, h1, h2, h3, h4, h5⟩
  · refine ⟨.map (es.push ⟨kv k, vv v, clk⟩) (clk + 1), ?_, es.push ⟨kv k, vv v, clk⟩, clk + 1, hget _, ?_⟩
    · simp [Instr.mapUpdate, run_underlying ht, MapKept.run_getObj_map hb, L.check w false hl, h1, MapKept.run_setObj_map _ hb, Result.andThen]
    · have hm : mput m k v = m ++ [(k, v)] := by simp [mput, h0]
      rw [hm]
      refine ⟨?_, fun x hx => ?_, stamped_push R.stamped h2⟩
      · simp [R.pairs]
      · rcases List.mem_append.1 hx with hx | hx
        · exact R.keys x hx
        · simp only [List.mem_singleton] at hx; subst hx; exact ⟨l, hl⟩
  · have hj : es[j]? = some e := by simpa using h2
    have hjl : j < es.size := (Array.getElem?_eq_some_iff.1 hj).1
    refine ⟨.map (es.modify j fun e => { e with key := kv k, val := vv v }) clk, ?_, es.modify j fun e => { e with key := kv k, val := vv v }, clk, hget _, ?_⟩
    · simp [Instr.mapUpdate, run_underlying ht, MapKept.run_getObj_map hb, L.check w false hl, h1, hj, h3, L.stays w hl, MapKept.run_setObj_map _ hb, Result.andThen]
    · have hm : mput m k v = m.map (fun x => if x.1 = k then (k, v) else x) := by simp [mput, h0]
      have hset : m.map (fun x => if x.1 = k then (k, v) else x) = m.set j (k, v) := by
        have hjm : j < m.length := by rw [← R.size]; exact hjl
        refine List.ext_getElem? fun i => ?_
        simp only [List.getElem?_map, List.getElem?_set]
        by_cases hij : j = i
        · subst hij
          rw [h5]; simp [hjm]
        · simp only [hij, if_false]
          cases hx : m[i]? with
          | none => rfl
          | some x =>
            simp only [Option.map_some]
            rw [if_neg]
            intro hxk
            have hn := R.nodup
            have e1 : (m.map (·.1))[i]? = some k := by simp [hx, hxk]
            have e2 : (m.map (·.1))[j]? = some k := by simp [h5]
            have hil : i < (m.map (·.1)).length := (List.getElem?_eq_some_iff.1 e1).1
            exact hij (((List.getElem?_inj hil hn).1 (e1.trans e2.symm)).symm)
      rw [hm]
      refine ⟨?_, fun x hx => ?_, stamped_modify R.stamped _ _ (fun _ _ => rfl) (fun e' _ he' => by rw [hj] at he'; cases he'; exact h3.symm)⟩
      · rw [hset, List.map_set, ← R.pairs]
        refine List.ext_getElem? fun i => ?_
        simp only [List.getElem?_map, Array.getElem?_toList, Array.getElem?_modify, List.getElem?_set, List.length_map, Array.length_toList]
        by_cases hij : j = i
        · subst hij; simp [hj, hjl]
        · simp [hij]
      · obtain ⟨y, hy, rfl⟩ := List.mem_map.1 hx
        split
        · exact ⟨l, hl⟩
        · exact R.keys y hy

theorem MapV.store {b : Nat} (h : MapV P K kv vv w (some b) m) {k : α} (v : β) (hk : ∃ l, keyOf P K (kv k) = some l) :
    ∃ w', (Instr.mapUpdate t (.map (some b)) (kv k) (vv v)).run P w = .ok () w' ∧ MapV P K kv vv w' (some b) (mput m k v) ∧ Keep (fun x => x = b) w w' ∧ w'.heap.size = w.heap.size := by
  rcases h with ⟨h, _⟩ | ⟨b', hr, h⟩
  · cases h
  · cases hr
    obtain ⟨ob, h3, h4⟩ := h.store L inj ht v hk
    exact ⟨_, h3, .inr ⟨b, rfl, h4⟩, ⟨rfl, rfl, rfl, by simp, fun i _ hi => by simp [Array.getElem?_setIfInBounds, show b ≠ i from fun e => hi e.symm]⟩, by simp⟩

/-- 'delete(m, k)'. -/
theorem MapAt.drop {ty : TypeId} (h : MapAt P K kv vv w b m) {k : α} (hk : ∃ l, keyOf P K (kv k) = some l) :
    ∃ o, (Builtin.delete_ #[t, K] ty #[.map (some b), kv k]).run P w = .ok (.tuple #[]) { w with heap := w.heap.setIfInBounds b o } ∧ MapAt P K kv vv { w with heap := w.heap.setIfInBounds b o } b (mdel m k) := by
  obtain ⟨l, hl⟩ := hk
  obtain ⟨es, clk, hb, R⟩ := h
  have hlt : b < w.heap.size := (Array.getElem?_eq_some_iff.1 hb).1
  have hget : ∀ o : Obj, (w.heap.setIfInBounds b o)[b]? = some o := fun o => by simp [Array.getElem?_setIfInBounds, hlt]
  rcases R.find L inj ⟨l, hl⟩ w with ⟨h0, h1, h2⟩ | ⟨j, e, u, h0, h1, h2, h3, h4, h5⟩
  · refine ⟨.map es clk, ?_, es, clk, hget _, ?_⟩
    · simp [Builtin.delete_, run_underlying ht, MapKept.run_getObj_map hb, L.check w _ hl, h1, MapKept.run_setObj_map _ hb, Result.andThen]
    · have : mdel m k = m := List.filter_eq_self.2 fun x hx => by simpa using mget_none.1 h0 x hx
      rw [this]; exact R
  · have hj : es[j]? = some e := by simpa using h2
    have hjl : j < es.size := (Array.getElem?_eq_some_iff.1 hj).1
    refine ⟨.map (es.eraseIdxIfInBounds j) clk, ?_, es.eraseIdxIfInBounds j, clk, hget _, ?_⟩
    · simp [Builtin.delete_, run_underlying ht, MapKept.run_getObj_map hb, L.check w _ hl, h1, MapKept.run_setObj_map _ hb, Result.andThen]
    · have hm : mdel m k = m.eraseIdx j := by
        have hn := R.nodup
        exact mdel_erase hn h5
      rw [hm]
      refine ⟨?_, fun x hx => R.keys x ((List.eraseIdx_sublist _ _).subset hx), stamped_erase R.stamped j⟩
      have : (es.eraseIdxIfInBounds j).toList = es.toList.eraseIdx j := by
        unfold Array.eraseIdxIfInBounds
        rw [dif_pos hjl]; simp
      rw [this, ChangeMaps.map_eraseIdx, ChangeMaps.map_eraseIdx, R.pairs]
end


end

/-- A key that is a struct of two ints. -/
theorem pairKey {P : Program} {k : TypeId} {f g : Field} {ti : TypeId} {a b : Int} (hu : P.underlying k = some (.struct #[f, g])) (hf : f.type = ti) (hg : g.type = ti) (hfo : f.offset = 0) (hgo : g.offset = 1) (hfn : (f.name != "_") = true) (hgn : (g.name != "_") = true)
    (hi : P.underlying ti = some (.int .i64)) (hc : P.cellsOf k = 2) (hci : P.cellsOf ti = 1) (hk : P.keyType k = true) (ha : (Lit.int .i64 a).wf = true) (hb : (Lit.int .i64 b).wf = true)
    (hs : ∃ n, P.types.size = n + 1) : ∃ l, keyOf P k (.agg #[.int .i64 a, .int .i64 b]) = some l := by
  obtain ⟨n, hn⟩ := hs
  have h2 : (Value.agg #[.int .i64 a, .int .i64 b]).formed P k = true := by simp [Value.formed, hu, hc]
  have h3 : P.keyLits (n + 1 + 1) k [.int .i64 a, .int .i64 b] = some [.int .i64 a, .int .i64 b] := by
    have hfn' : ¬ f.name = "_" := by simpa using hfn
    have hgn' : ¬ g.name = "_" := by simpa using hgn
    have e1 : ∀ x : Int, (Lit.int .i64 x).wf = true → P.keyLits (n + 1) ti [.int .i64 x] = some [.int .i64 x] := fun x hx => by
      unfold Program.keyLits; simp [hi, hx]
    unfold Program.keyLits
    simp [hu, hc, hf, hg, hfo, hgo, hci, hfn', hgn', e1 a ha, e1 b hb]
  rw [← hn] at h3
  refine ⟨.string (keyBytes [.int .i64 a, .int .i64 b]), ?_⟩
  unfold keyOf
  simp only [hu, hk, h2, Bool.and_self, if_true, Value.cells]
  rw [h3]
  rfl

/-- A pair of ints, and an int, as values. -/
abbrev pairV (k : Int × Int) : Value := .agg #[.int .i64 k.1, .int .i64 k.2]
abbrev i64V (n : Int) : Value := .int .i64 n
theorem pairV_inj (a c : Int × Int) (h : pairV a = pairV c) : a = c := by
  obtain ⟨a1, a2⟩ := a
  obtain ⟨c1, c2⟩ := c
  simp only [pairV, Value.agg.injEq, Array.mk.injEq, List.cons.injEq, Value.int.injEq, true_and, and_true] at h
  rw [h.1, h.2]
theorem i64wf {a : Int} (h1 : -9223372036854775808 ≤ a) (h2 : a ≤ 9223372036854775807) : (Lit.int .i64 a).wf = true := WalkArith.wf_i64 ⟨h1, h2⟩

end Go.Proofs.YtchbkceconlbkaaGreatDoor
