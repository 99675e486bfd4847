/- Slices of bytes: read, or the call's own; slices.Clone of bytes. -/
import Derived.Test.YtchbkceconlbkaaGreatDoorProg
import Derived.Test.YtchbkceconlbkaaGreatDoorOwn
namespace Go.Proofs.YtchbkceconlbkaaGreatDoor
open Go Go.RowKit
set_option linter.unusedSimpArgs false
set_option linter.unusedVariables false

/-- A byte as a value. -/
abbrev bV (n : Int) : Value := .int .u8 n
/-- v reads as the bytes bs: nil and none, or a row. -/
def RdB (w : World) (v : Value) (bs : List Int) : Prop :=
  (v = .slice none 0 0 ∧ bs = []) ∨
  ∃ g off cap, v = .slice (some ⟨g, off, none⟩) bs.length cap ∧ bs.length ≤ cap ∧ cap ≤ maxLen ∧ g < w.heap.size ∧ ∀ i, i < bs.length → w.cell? ⟨g, off + i, none⟩ = some (bV (bs.getD i 0))
/-- A row of the call's own. -/
def OwnB (base : Nat) (w : World) (v : Value) (bs : List Int) : Prop := w.ownsRow base 5 1 v bs.length (bs.map bV)
theorem RdB.below {w w' : World} {v : Value} {bs : List Int} (h : RdB w v bs) (k : Below w.heap.size w w') : RdB w' v bs := by
  rcases h with h | ⟨g, off, cap, rfl, h1, h2, h3, h4⟩
  · exact .inl h
  · exact .inr ⟨g, off, cap, rfl, h1, h2, Nat.lt_of_lt_of_le h3 k.size, fun i hi => (k.cell (p := ⟨g, off + i, none⟩) h3).trans (h4 i hi)⟩
theorem OwnB.rd {base : Nat} {w : World} {v : Value} {bs : List Int} (h : OwnB base w v bs) : RdB w v bs := by
  have h0 := h
  rcases h.2 with ⟨h1, h2⟩ | ⟨g, cap, cur, rfl, hb, hg, h3, h4, h5, h6⟩
  · exact .inl ⟨h1, List.length_eq_zero_iff.1 h2⟩
  · refine .inr ⟨g, 0, cap, rfl, h3, h4, (Array.getElem?_eq_some_iff.1 hg).1, fun i hi => ?_⟩
    rw [Nat.zero_add, World.ownsRow.cellAt h0 i (by omega)]
    simp [List.getD, hi]
theorem RdB.len {w : World} {v : Value} {bs : List Int} (h : RdB w v bs) : ∃ a cap, v = .slice a bs.length cap ∧ bs.length ≤ cap ∧ cap ≤ maxLen := by
  rcases h with ⟨rfl, rfl⟩ | ⟨g, off, cap, rfl, h1, h2, _⟩
  · exact ⟨none, 0, rfl, Nat.le_refl _, Nat.zero_le _⟩
  · exact ⟨_, cap, rfl, h1, h2⟩
theorem infoB : (Tryz.prog.info? 5).map (fun i => (i.zero, i.size, i.bytes)) = some (some (.int .u8 0), 1, 1) := by kernel_rfl
theorem bytes_at {w : World} {g off : Nat} {bs : List Int} {o : Obj} (hg : g < w.heap.size) (hc : ∀ i, i < bs.length → w.cell? ⟨g, off + i, none⟩ = some (bV (bs.getD i 0))) (j : Nat) (u : Value) (hj : (bs.map bV)[j]? = some u) : (w.alloc o).cell? ⟨g, off + j, none⟩ = some u := by
  have hjl : j < bs.length := by simpa using (List.getElem?_eq_some_iff.1 hj).1
  rw [((Below.refl w.heap.size w).alloc (Nat.le_refl _) o).cell (p := ⟨g, off + j, none⟩) hg, hc j hjl, ← hj]
  simp [List.getD, hjl]
set_option maxRecDepth 100000 in
/-- slices.Clone of bytes. -/
theorem cloneB_calls {w : World} {v : Value} {bs : List Int} (hR : RdB w v bs) (hl : bs.length ≤ 1000000) :
    Calls Tryz.prog 51 #[v] w fun e w' => ∃ v', e = .returned v' ∧ OwnB w.heap.size w' v' bs ∧ Below w.heap.size w w' := by
  obtain ⟨i0, hi, hz0, hz1, hz2⟩ := info_parts infoB
  rcases hR with ⟨rfl, rfl⟩ | ⟨g, off, cap, rfl, hlc, hcm, hg, hc⟩
  · have he := Lib.run_eql_slice_nil (P := Tryz.prog) w 24 5 none 0 0 0 0 Tryz.underlying24
    go_enter Tryz.func51, Tryz.ntmps51
    go_wp2_with fail
    go_ret
    exact ⟨_, rfl, ⟨rfl, .inl ⟨rfl, rfl⟩⟩, Below.refl _ _⟩
  · have HC := Lib.hid hc
    have hO0 : (w.alloc (Obj.cells #[] 5)).ownsRow w.heap.size 5 1 (.slice (some ⟨w.heap.size, 0, none⟩) 0 0) 0 [] := ⟨rfl, .inr ⟨w.heap.size, 0, #[], rfl, Nat.le_refl _, heap_alloc_new w _, Nat.le_refl _, by decide, rfl, rfl⟩⟩
    have HO0 := Lib.hid hO0
    have he := Lib.run_eql_slice_nil (P := Tryz.prog) w 24 5 (some ⟨g, off, none⟩) bs.length cap 0 0 Tryz.underlying24
    clear hc hO0
    unfold maxLen at hcm
    go_enter Tryz.func51, Tryz.ntmps51
    go_wp2_with (at_builtin; go_loud (refine wpList_append_own _ rfl _ _ 24 rfl w.heap.size 5 i0 (.int .u8 0) 1 1 Tryz.underlying24 hi hz0 hz1 hz2 rfl (by decide) _ 0 [] rfl HO0.out ⟨g, off, none⟩ bs.length cap (bs.map bV) rfl (by simp) (fun j u hj => by rw [Addr.add_lit]; exact bytes_at hg HC.out j u hj) (by intro u hu; obtain ⟨n, _, rfl⟩ := List.mem_map.1 hu; rfl) (by unfold maxLen; omega) (by omega) (by simp) ?_))
    intro v5 w10 hO10 hg10 _
    have HO10 : Hid (OwnB w.heap.size w10 v5 bs) := by
      unfold Hid OwnB
      simpa using hO10
    have HB10 : Hid (Below w.heap.size w w10) := Below.trans (show Below w.heap.size w (w.alloc (Obj.cells #[] 5)) by (repeat (first | exact Below.refl _ _ | assumption | refine Below.drew ?_ | refine below_many ?_ _ | refine Below.alloc ?_ (by first | (simp; done) | (simp; omega) | omega) _ | refine Below.setCell ?_ (by first | (simp; done) | (simp; omega) | omega) _))) ((Below.refl _ _).grown hg10 (by simp) (fun k hk => by simp [Value.ownBlock] at hk; omega))
    clear hO10 hg10
    go_wp2_with fail
    go_ret
    exact ⟨_, rfl, HO10.out, HB10.out⟩
end Go.Proofs.YtchbkceconlbkaaGreatDoor
