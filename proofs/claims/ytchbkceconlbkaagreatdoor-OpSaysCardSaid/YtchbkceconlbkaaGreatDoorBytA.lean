/- Slices of bytes: append of bytes that are read; what stays of an own slice. -/
import Derived.Test.YtchbkceconlbkaaGreatDoorByt
namespace Go.Proofs.YtchbkceconlbkaaGreatDoor
open Go Go.RowKit
set_option linter.unusedSimpArgs false
set_option linter.unusedVariables false

theorem OwnB.len {base : Nat} {w : World} {v : Value} {bs : List Int} (h : OwnB base w v bs) : ∃ a cap, v = .slice a bs.length cap := by
  rcases h.2 with ⟨h1, h2⟩ | ⟨g, cap, cur, h1, _⟩
  · exact ⟨none, 0, by rw [h1, h2]⟩
  · exact ⟨_, cap, h1⟩
theorem run_append_of_nilB {P : Program} (w : World) (base : Nat) (t ty e : TypeId) (i : TypeInfo) (size : Nat) (ht : P.underlying t = some (.slice e)) (hi : P.info? e = some i)
    (v : Value) (n : Nat) (xs : List Value) (hown : w.ownsRow base e size v n xs) (c : Nat) : (Builtin.append_ #[t, t] ty #[v, .slice none 0 c]).run P w = .ok v w := by
  rcases hown.2 with ⟨rfl, rfl⟩ | ⟨g, cap, cur, rfl, _, _, hnc, _⟩
  · simp [Builtin.append_, run_underlying ht, sizeOf, typeInfo, hi, Builtin.lenOf, Builtin.firstCells]
  · simp [Builtin.append_, run_underlying ht, sizeOf, typeInfo, hi, Builtin.lenOf, Builtin.firstCells, hnc, storeCells]
section
variable {P : Program} {ops : Array Oper} {rest : List Oper} {o : Oper} {a : Act} {Q : Exit → Act → World → Prop} {w : World}
/-- 'append(b, c...)' of bytes that are read, at a slice of the call's own. -/
theorem wpList_appB (hgd : o.guard = none) (s x : Operand) (t : TypeId) (ho : o.op = .call { callee := .builtin .append, args := #[s, x], argTypes := #[t, t] })
    (ht : P.underlying t = some (.slice 5)) (hinfo : (P.info? 5).map (fun i => (i.zero, i.size, i.bytes)) = some (some (.int .u8 0), 1, 1))
    (base : Nat) (v : Value) (xs ys : List Int) (hs : a.eval s = v) (hown : OwnB base w v xs) (u : Value) (hx : a.eval x = u) (hr : RdB w u ys)
    (hlen : xs.length + ys.length ≤ 1000000) (hbase : base ≤ w.heap.size)
    (h : ∀ v' w', OwnB base w' v' (xs ++ ys) → Keep (fun x => v.ownBlock = some x) w w' → wpList P ops Q rest (a.put o.dst v') w') : wpList P ops Q (o :: rest) a w := by
  obtain ⟨i0, hi, hz0, hz1, hz2⟩ := info_parts hinfo
  refine wpList_plain hgd fun K' hK' => ?_
  have main : ∀ c (ad : Option Addr) (hu : u = .slice ad ys.length c), (∃ v' w', (Builtin.append_ #[t, t] o.type #[v, .slice ad ys.length c]).run P w = .ok v' w' ∧ OwnB base w' v' (xs ++ ys) ∧ Keep (fun x => v.ownBlock = some x) w w') → Oper.wp P o a w K' Q := by
    rintro c ad hu ⟨v', w', hrun, h1, h2⟩
    unfold Oper.wp
    simp [execOp, ho, resolve, invoke, builtin, hs, hx, hu, hrun, Result.andThen]
    exact hK' _ _ (h v' w' h1 h2)
  rcases hr with ⟨rfl, rfl⟩ | ⟨g, off, cap, rfl, h1, h2, h3, h4⟩
  · exact main 0 none rfl ⟨v, w, run_append_of_nilB w base t _ _ i0 1 ht hi v _ _ hown 0, by simpa using hown, Keep.refl _ _⟩
  · refine main cap _ rfl ?_
    obtain ⟨v', w', hrun, r1, r2, _⟩ := run_append_own (P := P) w base t o.type 5 i0 (.int .u8 0) 1 1 ht hi hz0 hz1 hz2 rfl (by decide) v xs.length (xs.map bV) hown ⟨g, off, none⟩ ys.length cap (ys.map bV) (by simp)
      (by
        intro j z hj
        have hjl : j < ys.length := by simpa using (List.getElem?_eq_some_iff.1 hj).1
        rw [Addr.add_lit, h4 j hjl, ← hj]
        simp [List.getD, hjl])
      (by intro z hz; obtain ⟨n, _, rfl⟩ := List.mem_map.1 hz; rfl) (by unfold maxLen; omega) (by omega) hbase
    refine ⟨v', w', hrun, ?_, ⟨r2.os, r2.tape, r2.output, r2.size, fun k hk hs => r2.block k hk fun e => hs e.symm⟩⟩
    unfold OwnB
    rw [List.map_append, List.length_append]
    exact r1
end
theorem cell_new (w : World) (cs : Array Value) (t : TypeId) (o : Nat) : (w.alloc (.cells cs t)).cell? ⟨w.heap.size, o, none⟩ = cs[o]? := by
  simp only [World.cell?, heap_alloc_new]
  rfl
theorem rdB_one (w : World) (x : Int) (E : TypeId) : RdB (w.alloc (.cells #[.int .u8 x] E)) (.slice (some ⟨w.heap.size, 0, none⟩) 1 1) [x] := by
  refine .inr ⟨w.heap.size, 0, 1, rfl, Nat.le_refl _, by decide, by simp, fun i hi => ?_⟩
  obtain rfl : i = 0 := by simpa using hi
  exact cell_new w _ _ 0
theorem OwnB.below {base : Nat} {w w' : World} {v : Value} {xs : List Int} (h : OwnB base w v xs) (k : Below w.heap.size w w') : OwnB base w' v xs :=
  World.ownsRow.kept h (grown_of_below k) (by cases v.ownBlock <;> simp)
theorem OwnB.alloc {base : Nat} {w : World} {v : Value} {xs : List Int} (h : OwnB base w v xs) (o : Obj) : OwnB base (w.alloc o) v xs := h.below ((Below.refl _ _).alloc (Nat.le_refl _) o)
theorem OwnB.block {base : Nat} {w : World} {v : Value} {xs : List Int} (h : OwnB base w v xs) : ∀ g, v.ownBlock = some g → base ≤ g := fun g hg => (World.ownsRow.lt h g hg).1
end Go.Proofs.YtchbkceconlbkaaGreatDoor
