/- (*asset.Master).All: all assets by their numbers; a master in memory as a whole. -/
import Derived.Test.YtfecgcdceegdlaaDoorSorted
namespace Go.Proofs.YtfecgcdceegdlaaDoor
open Go.Maps
open Go Go.RowKit
set_option linter.unusedSimpArgs false
set_option linter.unusedVariables false

def idsOf (m : Assets) : List Int := (m.map (·.1)).mergeSort leI
theorem idsOf_len (m : Assets) : (idsOf m).length = m.length := by simp [idsOf, List.length_mergeSort]
theorem idsOf_mem {m : Assets} {k : Int} (h : k ∈ idsOf m) : ∃ x ∈ m, x.1 = k := by
  have := (List.mergeSort_perm (m.map (·.1)) leI).subset h
  obtain ⟨x, hx, rfl⟩ := List.mem_map.1 this
  exact ⟨x, hx, rfl⟩
/-- All assets, by their numbers. -/
def allOf (m : Assets) : List AS := (idsOf m).map fun k => (mget m k).getD zeroA
theorem allOf_len (m : Assets) : (allOf m).length = m.length := by simp [allOf, idsOf_len]

theorem sorted_any {w : World} {r : Option Nat} {m : Assets} (h : AssetMap w r m) (hl : m.length ≤ 1000) :
    Calls Tryd.prog 72 #[.func (.func 108) #[] #[.pointer (some ⟨w.heap.size, 0, none⟩)]] (w.alloc (.cells #[.map r] 25)) fun e w' =>
      ∃ v, e = .returned v ∧ OwnI 3 w.heap.size w' v (idsOf m) ∧ Below w.heap.size w w' := by
  rcases h with ⟨rfl, rfl⟩ | ⟨b, rfl, hm⟩
  · refine (sorted_nil w).mono ?_
    rintro e w' ⟨rfl, hb⟩
    exact ⟨_, rfl, by simpa [idsOf] using OwnI.nil 3 w.heap.size w', hb⟩
  · exact sorted_calls hm hl

/-- The cells of assets, one behind the other. -/
def asCells : List AS → List Value
  | [] => []
  | x :: L => .int .i64 x.1 :: .int .i64 x.2.1 :: .int .i64 x.2.2.1 :: .int .i64 x.2.2.2.1 :: .int .i64 x.2.2.2.2 :: asCells L
theorem asCells_length (L : List AS) : (asCells L).length = L.length * 5 := by
  induction L with
  | nil => rfl
  | cons x L ih => simp only [asCells, List.length_cons, ih]; omega
theorem asCells_append (L M : List AS) : asCells (L ++ M) = asCells L ++ asCells M := by
  induction L with
  | nil => rfl
  | cons x L ih => simp [asCells, ih]
theorem asCells_one (L : List AS) : ∀ u ∈ asCells L, u.oneCell' = true := by
  induction L with
  | nil => intro u hu; cases hu
  | cons x L ih =>
    intro u hu
    simp only [asCells, List.mem_cons] at hu
    rcases hu with rfl | rfl | rfl | rfl | rfl | hu
    · rfl
    · rfl
    · rfl
    · rfl
    · rfl
    · exact ih u hu
def OwnA (E : TypeId) (base : Nat) (w : World) (v : Value) (L : List AS) : Prop := w.ownsRow base E 5 v L.length (asCells L)
theorem OwnA.nil (E : TypeId) (base : Nat) (w : World) : OwnA E base w (.slice none 0 0) [] := ⟨rfl, .inl ⟨rfl, rfl⟩⟩
section
variable {E : TypeId} {base : Nat} {w w' : World} {v : Value} {L : List AS}
theorem OwnA.below (h : OwnA E base w v L) (k : Below w.heap.size w w') : OwnA E base w' v L :=
  World.ownsRow.kept h (grown_of_below k) (by cases v.ownBlock <;> simp)
theorem OwnA.alloc (h : OwnA E base w v L) (o : Obj) : OwnA E base (w.alloc o) v L := h.below ((Below.refl _ _).alloc (Nat.le_refl _) o)
theorem OwnA.block (h : OwnA E base w v L) : ∀ g, v.ownBlock = some g → base ≤ g ∧ g < w.heap.size := by
  intro g hg
  rcases h.2 with ⟨h1, _⟩ | ⟨g', cap, cur, h1, hb, hh, _⟩
  · rw [h1] at hg; simp [Value.ownBlock] at hg
  · rw [h1] at hg; simp only [Value.ownBlock, Option.some.injEq] at hg
    subst hg
    exact ⟨hb, (Array.getElem?_eq_some_iff.1 hh).1⟩
theorem OwnA.len (h : OwnA E base w v L) : ∃ a cap, v = .slice a L.length cap := by
  rcases h.2 with ⟨h1, h2⟩ | ⟨g, cap, cur, h1, _⟩
  · exact ⟨none, 0, by rw [h1, h2]⟩
  · exact ⟨_, cap, h1⟩
end
section
variable {P : Program} {ops : Array Oper} {rest : List Oper} {o : Oper} {a : Act} {Q : Exit → Act → World → Prop} {w : World}
/-- 'append(l, m..)' at a slice of the call's own. -/
theorem wpList_appA (hgd : o.guard = none) (s x : Operand) (t : TypeId) (ho : o.op = .call { callee := .builtin .append, args := #[s, x], argTypes := #[t, t] })
    (E : TypeId) (ht : P.underlying t = some (.slice E)) {zc : Value} (hzc : zc.cells.size = 5) (hinfo : (P.info? E).map (fun i => (i.zero, i.size, i.bytes)) = some (some zc, 5, 40))
    (base : Nat) (v : Value) (L Y : List AS) (hs : a.eval s = v) (hown : OwnA E base w v L) (ad : Addr) (m c : Nat) (hx : a.eval x = .slice (some ad) m c) (hm : Y.length = m) (hn : ∀ j u, (asCells Y)[j]? = some u → w.cell? (ad.add j) = some u)
    (hlen : L.length + Y.length ≤ 1000000) (hbase : base ≤ w.heap.size)
    (h : ∀ v' w', OwnA E base w' v' (L ++ Y) → Keep (fun x => v.ownBlock = some x) w w' → wpList P ops Q rest (a.put o.dst v') w') : wpList P ops Q (o :: rest) a w := by
  subst hm
  obtain ⟨i0, hi, hz0, hz1, hz2⟩ := info_parts hinfo
  obtain ⟨v', w', hrun, r1, r2, _⟩ := run_append_own (P := P) w base t o.type E i0 zc 5 40 ht hi hz0 hz1 hz2 hzc (by decide) v L.length (asCells L) hown ad Y.length c (asCells Y) (asCells_length Y) hn (asCells_one Y)
    (by unfold maxLen; omega) (by omega) hbase
  refine wpList_plain hgd fun K' hK' => ?_
  unfold Oper.wp
  simp [execOp, ho, resolve, invoke, builtin, hs, hx, hrun, Result.andThen]
  refine hK' _ _ (h v' w' ?_ ⟨r2.os, r2.tape, r2.output, r2.size, fun k hk hs => r2.block k hk fun e => hs e.symm⟩)
  unfold OwnA
  rw [asCells_append, List.length_append]
  exact r1
end
theorem infoAsset : (Tryd.prog.info? 29).map (fun i => (i.zero, i.size, i.bytes)) = some (some (astV zeroA), 5, 40) := by kernel_rfl
theorem cells_fresh (w : World) (cs : Array Value) (E : TypeId) (j : Nat) (u : Value) (h : cs.toList[j]? = some u) : (w.alloc (.cells cs E)).cell? ((⟨w.heap.size, 0, none⟩ : Addr).add j) = some u := by
  rw [show (⟨w.heap.size, 0, none⟩ : Addr).add j = ⟨w.heap.size, j, none⟩ by cases j <;> simp [Addr.add]]
  simp only [World.cell?, World.alloc, Array.getElem?_push, if_true]
  simpa using h

set_option maxHeartbeats 2000000 in
set_option maxRecDepth 100000 in
theorem all_calls {w : World} {b o : Nat} {r : Option Nat} {m : Assets} (hc : w.cell? ⟨b, o, none⟩ = some (.map r)) (hm : AssetMap w r m) (hl : m.length ≤ 1000) (hk : ∀ x ∈ m, (Lit.int .i64 x.1).wf = true) :
    Calls Tryd.prog 19 #[.pointer (some ⟨b, o, none⟩)] w fun e w' => ∃ v, e = .returned v ∧ OwnA 29 w.heap.size w' v (allOf m) ∧ Below w.heap.size w w' := by
  have hlt : b < w.heap.size := World.block_lt_of_cell? w ⟨b, o, none⟩ hc
  have HM := Lib.hid hm
  have HW : Hid (∀ k ∈ idsOf m, (Lit.int .i64 k).wf = true) := fun k hk' => by
    obtain ⟨x, hx, rfl⟩ := idsOf_mem hk'
    exact hk x hx
  have hnl := idsOf_len m
  clear hm hk
  go_enter Tryd.func19, Tryd.ntmps19
  go_wp2_with fail
  refine (keys_calls r w).mono ?_
  rintro e w1 ⟨rfl, rfl⟩
  go_wp2_with fail
  refine (sorted_any HM.out hl).mono ?_
  rintro e w2 ⟨v, rfl, hO, hb⟩
  obtain ⟨ad, cap, rfl⟩ := hO.len
  have hc2 := (hb.cell (p := ⟨b, o, none⟩) hlt).trans hc
  have HI := Lib.hid hO
  have hs2 := hb.size
  have HM2 := Lib.hid (HM.out.below hb)
  have HB2 := Lib.hid hb
  have HAll : Hid (allOf m = (idsOf m).map fun k => (mget m k).getD zeroA) := rfl
  generalize hids : idsOf m = ids at HI HW HAll hnl ⊢
  clear hids hO hb hc
  go_wp2_with fail
  go_loopw [13, 3] (fun i u wq => ∃ k : Nat, k ≤ ids.length ∧ i = .int .i64 k ∧ Hid (OwnA 29 w2.heap.size wq u ((ids.take k).map fun k => (mget m k).getD zeroA)) ∧ Hid (Below w2.heap.size w2 wq)) (fun i _ _ => ids.length - (intOf i).toNat)
  case atStart => exact ⟨0, Nat.zero_le _, rfl, OwnA.nil _ _ _, Below.refl _ _⟩
  case round =>
    obtain ⟨k, hk, rfl, hA, hB⟩ := hrel
    by_cases hkl : k < ids.length
    · obtain ⟨g, cap', hv, hg1, hg2, hg3, hg4, hg5, hg6⟩ := HI.out.cells (by intro e; rw [e] at hkl; simp at hkl)
      simp only [Value.slice.injEq, true_and] at hv
      obtain ⟨rfl, rfl⟩ := hv
      have d0 := (hB.out.cell (p := ⟨g, k, none⟩) hg2).trans (hg5 k hkl)
      have d1 := (hB.out.cell (p := ⟨b, o, none⟩) (Nat.lt_of_lt_of_le hlt hs2)).trans hc2
      have hid : ids.getD k 0 ∈ ids := by simp [List.getD, hkl]
      have hl' := asset_look (HM2.out.below hB.out) (ids.getD k 0) (HW.out _ hid)
      have HT : Hid ((ids.take (k + 1)).map (fun k => (mget m k).getD zeroA) = (ids.take k).map (fun k => (mget m k).getD zeroA) ++ [(mget m (ids.getD k 0)).getD zeroA]) := by
        unfold Hid
        rw [List.take_succ_eq_append_getElem hkl, List.map_append]
        simp [List.getD, hkl]
      have hsr := hB.out.size
      unfold maxLen at hg4
      generalize (mget m (ids.getD k 0)).getD zeroA = x at hl' HT
      generalize ids.getD k 0 = id at d0 hl'
      obtain ⟨x1, x2, x3, x4, x5⟩ := x
      clear hg5 hg6 hid
      go_wp2_with (at_builtin; refine wpList_appA rfl _ _ 34 rfl 29 Tryd.underlying34 (by rfl) infoAsset w2.heap.size _ ((ids.take k).map fun k => (mget m k).getD zeroA) [(x1, x2, x3, x4, x5)] rfl (hA.out.alloc _) ⟨wr.heap.size, 0, none⟩ 1 1 rfl rfl ?c1 ?c2 ?c3 ?_)
      case c1 => exact fun z u hz => cells_fresh wr _ _ z u hz
      case c2 => simp; omega
      case c3 => simp; omega
      intro v5 w10 hO10 hk10
      have hbk := (hA.out.alloc (Obj.cells #[.int .i64 x1, .int .i64 x2, .int .i64 x3, .int .i64 x4, .int .i64 x5] 29)).block
      have HB10 : Hid (Below w2.heap.size w2 w10) := Below.trans (show Below w2.heap.size w2 _ by have := hB.out; (repeat (first | exact Below.refl _ _ | assumption | refine Below.drew ?_ | refine below_many ?_ _ | refine Below.alloc ?_ (by first | (simp; done) | (simp; omega) | omega) _ | refine Below.setCell ?_ (by first | (simp; done) | (simp; omega) | omega) _))) (hk10.below (by simp; omega) (fun z hz e => by have := (hbk z e).1; omega))
      have HO10 : Hid (OwnA 29 w2.heap.size w10 v5 ((ids.take (k + 1)).map fun k => (mget m k).getD zeroA)) := by unfold Hid; rw [HT.out]; first | exact hO10 | (rw [List.map_take]; exact hO10)
      clear hO10 hk10 hbk hA hB
      go_wp2_with fail
      go_roundw
      case rel => exact ⟨k + 1, by omega, by go_num, HO10, HB10⟩
      case measure => simp [intOf]; omega
    · obtain rfl : k = ids.length := by omega
      have hA' := hA.out
      rw [List.take_length, ← HAll.out] at hA'
      have HA' := Lib.hid hA'
      clear hA hA'
      go_wp2_with fail
      go_ret
      exact ⟨_, rfl, ownsRow_base_a HA'.out hs2, HB2.out.trans (hB.out.mono hs2)⟩

end Go.Proofs.YtfecgcdceegdlaaDoor
