/- slices.Concat of two slices of bytes; the shelf's contract of slices.Grow laid at this seat (<Name>GrowB). -/
import Derived.Test.YtehacchacgfjlaaDoorDisk0
import Derived.Test.YtehacchacgfjlaaDoorGrowB
import Derived.Shelf.Spec.SlicesGrow
namespace Go.Proofs.YtehacchacgfjlaaDoor
open Go.Shelf
open Go Go.RowKit
set_option linter.unusedSimpArgs false
set_option linter.unusedVariables false

theorem OwnB.len {base : Nat} {w : World} {v : Value} {bs : List Int} (h : OwnB base w v bs) : ∃ a cap, v = .slice a bs.length cap := by
  rcases h.2 with ⟨h1, h2⟩ | ⟨g, cap, cur, h1, _⟩
  · exact ⟨none, 0, by rw [h1, h2]⟩
  · exact ⟨_, cap, h1⟩
/-- slices.Grow of nothing. -/
theorem grow_calls (n : Nat) (h0 : 0 < n) (hn : n ≤ 1000000) (w : World) :
    Calls Tryd.prog 107 #[.slice none 0 0, .int .i64 n] w fun e w' => ∃ v, e = .returned v ∧ OwnB w.heap.size w' v [] ∧ Below w.heap.size w w' := by
  obtain ⟨i0, hi, hz0, hz1, hz2⟩ := info_parts infoB
  refine (Any8.slices_Grow_grow Tryd.growB i0 (.int .u8 0) hi hz0 (by rw [hz1]; decide) none 0 0 n [] w (Nat.le_refl _) (by omega) (by rw [hz2]; omega) (by omega) (by simp) (fun _ => rfl) (fun a h => by cases h)).mono ?_
  rintro e w' ⟨rfl, rfl⟩
  have h1 := grownCap_le_maxLen w (0 + n) 0 (Tryd.growB_ren.t 25) (by unfold maxLen; omega)
  have h2 := grownCap_ge w (0 + n) 0 (Tryd.growB_ren.t 25)
  rw [Nat.zero_add] at h1 h2 ⊢
  refine ⟨_, rfl, World.ownsRow_made w.drew _ _ (Nat.le_refl _) h1 ?_, by (repeat (first | exact Below.refl _ _ | assumption | refine Below.drew ?_ | refine below_many ?_ _ | refine Below.alloc ?_ (by first | (simp; done) | (simp; omega) | omega) _ | refine Below.setCell ?_ (by first | (simp; done) | (simp; omega) | omega) _))⟩
  have : (Value.int IntKind.u8 0).cells.size = 1 := rfl
  simp [size_zeroCells, this]
  omega
theorem run_append_of_nilB {P : Program} (w : World) (base : Nat) (t ty e : TypeId) (i : TypeInfo) (size : Nat) (ht : P.underlying t = some (.slice e)) (hi : P.info? e = some i)
    (v : Value) (n : Nat) (xs : List Value) (hown : w.ownsRow base e size v n xs) (c : Nat) : (Builtin.append_ #[t, t] ty #[v, .slice none 0 c]).run P w = .ok v w := by
  rcases hown.2 with ⟨rfl, rfl⟩ | ⟨g, cap, cur, rfl, _, _, hnc, _⟩
  · simp [Builtin.append_, run_underlying ht, sizeOf, typeInfo, hi, Builtin.lenOf, Builtin.firstCells]
  · simp [Builtin.append_, run_underlying ht, sizeOf, typeInfo, hi, Builtin.lenOf, Builtin.firstCells, hnc, storeCells]
section
variable {P : Program} {ops : Array Oper} {rest : List Oper} {o : Oper} {a : Act} {Q : Exit → Act → World → Prop} {w : World}
/-- 'append(b, c...)' of bytes that are read, at a slice of the call's own. -/
theorem wpList_appB (hgd : o.guard = none) (s x : Operand) (t : TypeId) (ho : o.op = .call { callee := .builtin .append, args := #[s, x], argTypes := #[t, t] })
    (ht : P.underlying t = some (.slice 5)) (hinfo : (P.info? 5).map (fun i => (i.zero, i.size, i.bytes)) = some (some (.int .u8 0), 1, 1))
    (base : Nat) (v : Value) (xs ys : List Int) (hs : a.eval s = v) (hown : OwnB base w v xs) (u : Value) (hx : a.eval x = u) (hr : RdB w u ys)
    (hlen : xs.length + ys.length ≤ 1000000) (hbase : base ≤ w.heap.size)
    (h : ∀ v' w', OwnB base w' v' (xs ++ ys) → Keep (fun x => v.ownBlock = some x) w w' → wpList P ops Q rest (a.put o.dst v') w') : wpList P ops Q (o :: rest) a w := by
  obtain ⟨i0, hi, hz0, hz1, hz2⟩ := info_parts hinfo
  refine wpList_plain hgd fun K' hK' => ?_
  have main : ∀ c (ad : Option Addr) (hu : u = .slice ad ys.length c), (∃ v' w', (Builtin.append_ #[t, t] o.type #[v, .slice ad ys.length c]).run P w = .ok v' w' ∧ OwnB base w' v' (xs ++ ys) ∧ Keep (fun x => v.ownBlock = some x) w w') → Oper.wp P o a w K' Q := by
    rintro c ad hu ⟨v', w', hrun, h1, h2⟩
    unfold Oper.wp
    simp [execOp, ho, resolve, invoke, builtin, hs, hx, hu, hrun, Result.andThen]
    exact hK' _ _ (h v' w' h1 h2)
  rcases hr with ⟨rfl, rfl⟩ | ⟨g, off, cap, rfl, h1, h2, h3, h4⟩
  · exact main 0 none rfl ⟨v, w, run_append_of_nilB w base t _ _ i0 1 ht hi v _ _ hown 0, by simpa using hown, Keep.refl _ _⟩
  · refine main cap _ rfl ?_
    obtain ⟨v', w', hrun, r1, r2, _⟩ := run_append_own (P := P) w base t o.type 5 i0 (.int .u8 0) 1 1 ht hi hz0 hz1 hz2 rfl (by decide) v xs.length (xs.map bV) hown ⟨g, off, none⟩ ys.length cap (ys.map bV) (by simp)
      (by
        intro j z hj
        have hjl : j < ys.length := by simpa using (List.getElem?_eq_some_iff.1 hj).1
        rw [Addr.add_lit, h4 j hjl, ← hj]
        simp [List.getD, hjl])
      (by intro z hz; obtain ⟨n, _, rfl⟩ := List.mem_map.1 hz; rfl) (by unfold maxLen; omega) (by omega) hbase
    refine ⟨v', w', hrun, ?_, ⟨r2.os, r2.tape, r2.output, r2.size, fun k hk hs => r2.block k hk fun e => hs e.symm⟩⟩
    unfold OwnB
    rw [List.map_append, List.length_append]
    exact r1
end
set_option maxHeartbeats 1000000 in
set_option maxRecDepth 100000 in
theorem concat2_calls {w : World} {g : Nat} {v1 v2 : Value} {xs ys : List Int} (c0 : w.cell? ⟨g, 0, none⟩ = some v1) (c1 : w.cell? ⟨g, 1, none⟩ = some v2) (R1 : RdB w v1 xs) (R2 : RdB w v2 ys) (h0 : 0 < xs.length + ys.length) (hl : xs.length + ys.length ≤ 1000000) :
    Calls Tryd.prog 71 #[.slice (some ⟨g, 0, none⟩) 2 2] w fun e w' => ∃ v, e = .returned v ∧ OwnB w.heap.size w' v (xs ++ ys) ∧ Below w.heap.size w w' := by
  have hg := World.block_lt_of_cell? w _ c0
  obtain ⟨a1, k1, rfl, _, _⟩ := R1.len
  obtain ⟨a2, k2, rfl, _, _⟩ := R2.len
  have H1 := Lib.hid R1
  have H2 := Lib.hid R2
  clear R1 R2
  go_enter Tryd.func71, Tryd.ntmps71
  go_wp2_with fail
  refine wp_loop_rounds 3 ?_
  rw [rounds_succ]
  go_wp2_with fail
  rw [rounds_succ]
  go_wp2_with fail
  rw [rounds_succ]
  go_wp2_with fail
  refine (grow_calls (xs.length + ys.length) h0 hl w).mono ?_
  rintro e w1 ⟨v, rfl, hO, hb⟩
  have HO := Lib.hid hO
  have HB := Lib.hid hb
  have e0 := (hb.cell (p := ⟨g, 0, none⟩) hg).trans c0
  have e1 := (hb.cell (p := ⟨g, 1, none⟩) hg).trans c1
  have hs := hb.size
  have K1 := Lib.hid (H1.out.below hb)
  obtain ⟨a3, k3, rfl⟩ := hO.len
  clear hO hb H1
  go_wp2_with fail
  refine wp_loop_rounds 3 ?_
  rw [rounds_succ]
  go_wp2_with (at_builtin; go_loud (refine wpList_appB rfl _ _ 30 rfl Tryd.underlying30 infoB w.heap.size _ [] xs rfl HO.out _ rfl K1.out (by simp; omega) hs ?_))
  intro v4 w4 hO4 hk4
  have hlt3 : ∀ z, (Value.slice a3 ([] : List Int).length k3).ownBlock = some z → w.heap.size ≤ z := fun z hz => (World.ownsRow.lt HO.out z hz).1
  have HB4 : Hid (Below w.heap.size w w4) := Below.trans HB.out (hk4.below hs fun z hz e => by have := hlt3 z e; omega)
  have e14 := (HB4.out.cell (p := ⟨g, 1, none⟩) hg).trans c1
  have K2 := Lib.hid (H2.out.below HB4.out)
  obtain ⟨a5, k5, rfl⟩ := hO4.len
  have HO4 := Lib.hid hO4
  have hs4 := HB4.out.size
  clear hO4 hk4 e0 e1 HO c0 c1 H2 K1
  go_wp2_with fail
  rw [rounds_succ]
  go_wp2_with (at_builtin; go_loud (refine wpList_appB rfl _ _ 30 rfl Tryd.underlying30 infoB w.heap.size _ xs ys rfl HO4.out _ rfl K2.out (by omega) hs4 ?_))
  intro v6 w6 hO6 hk6
  have hlt5 : ∀ z, (Value.slice a5 xs.length k5).ownBlock = some z → w.heap.size ≤ z := fun z hz => (World.ownsRow.lt HO4.out z hz).1
  have HB6 : Hid (Below w.heap.size w w6) := Below.trans HB4.out (hk6.below hs4 fun z hz e => by have := hlt5 z e; omega)
  have HO6 : Hid (OwnB w.heap.size w6 v6 (xs ++ ys)) := by simpa [Hid] using hO6
  clear hO6 hk6 e14 HO4 K2
  go_wp2_with fail
  rw [rounds_succ]
  go_wp2_with fail
  go_ret
  exact ⟨_, rfl, HO6.out, HB6.out⟩
end Go.Proofs.YtehacchacgfjlaaDoor
