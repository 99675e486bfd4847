/- (*asset.Master).Of: the numbers of an issuer's assets. -/
import Derived.Test.YtfecgcdceegdlaaDoorAll
namespace Go.Proofs.YtfecgcdceegdlaaDoor
open Go.Maps
open Go Go.RowKit
set_option linter.unusedSimpArgs false
set_option linter.unusedVariables false

theorem asCells_get : ∀ (L : List AS) (i : Nat) (x : AS), L[i]? = some x →
    (asCells L)[i * 5]? = some (.int .i64 x.1) ∧ (asCells L)[i * 5 + 1]? = some (.int .i64 x.2.1) ∧ (asCells L)[i * 5 + 2]? = some (.int .i64 x.2.2.1) ∧ (asCells L)[i * 5 + 3]? = some (.int .i64 x.2.2.2.1) ∧ (asCells L)[i * 5 + 4]? = some (.int .i64 x.2.2.2.2)
  | [], i, x, h => by simp at h
  | y :: L, 0, x, h => by
    simp only [List.getElem?_cons_zero, Option.some.injEq] at h
    subst h
    simp [asCells]
  | y :: L, i + 1, x, h => by
    simp only [List.getElem?_cons_succ] at h
    have ih := asCells_get L i x h
    simp only [asCells]
    refine ⟨?_, ?_, ?_, ?_, ?_⟩
    · rw [show (i + 1) * 5 = i * 5 + 1 + 1 + 1 + 1 + 1 by omega]; simpa using ih.1
    · rw [show (i + 1) * 5 + 1 = (i * 5 + 1) + 1 + 1 + 1 + 1 + 1 by omega]; simpa using ih.2.1
    · rw [show (i + 1) * 5 + 2 = (i * 5 + 2) + 1 + 1 + 1 + 1 + 1 by omega]; simpa using ih.2.2.1
    · rw [show (i + 1) * 5 + 3 = (i * 5 + 3) + 1 + 1 + 1 + 1 + 1 by omega]; simpa using ih.2.2.2.1
    · rw [show (i + 1) * 5 + 4 = (i * 5 + 4) + 1 + 1 + 1 + 1 + 1 by omega]; simpa using ih.2.2.2.2
/-- Its cells. -/
theorem OwnA.open {E : TypeId} {base : Nat} {w : World} {v : Value} {L : List AS} (h : OwnA E base w v L) (hne : L ≠ []) :
    ∃ g cap, v = .slice (some ⟨g, 0, none⟩) L.length cap ∧ base ≤ g ∧ g < w.heap.size ∧ L.length ≤ cap ∧ cap ≤ maxLen ∧ (∀ j u, (asCells L)[j]? = some u → w.cell? ⟨g, j, none⟩ = some u) := by
  have h0 := h
  rcases h.2 with ⟨_, h2⟩ | ⟨g, cap, cur, rfl, hb, hg, h3, h4, h5, h6⟩
  · exact absurd (List.length_eq_zero_iff.1 h2) hne
  · refine ⟨g, cap, rfl, hb, (Array.getElem?_eq_some_iff.1 hg).1, h3, h4, fun j u hj => ?_⟩
    have hjl := (List.getElem?_eq_some_iff.1 hj).1
    rw [asCells_length] at hjl
    rw [World.ownsRow.cellAt h0 j hjl, hj]
def ofIss (m : Assets) (iss : Int) : List Int := ((allOf m).filter fun a => decide (a.2.1 = iss)).map (·.1)
theorem infoI : (Tryd.prog.info? 3).map (fun i => (i.zero, i.size, i.bytes)) = some (some (.int .i64 0), 1, 8) := by kernel_rfl
theorem take_snocA {L : List AS} {k : Nat} {x : AS} (h : L[k]? = some x) : L.take (k + 1) = L.take k ++ [x] := by
  obtain ⟨hk, hx⟩ := List.getElem?_eq_some_iff.1 h
  rw [List.take_succ_eq_append_getElem hk, hx]

set_option maxHeartbeats 2000000 in
set_option maxRecDepth 100000 in
theorem of_calls {w : World} {b o : Nat} {r : Option Nat} {m : Assets} (hc : w.cell? ⟨b, o, none⟩ = some (.map r)) (hm : AssetMap w r m) (hl : m.length ≤ 1000) (hk : ∀ x ∈ m, (Lit.int .i64 x.1).wf = true) (iss : Int) :
    Calls Tryd.prog 20 #[.pointer (some ⟨b, o, none⟩), .int .i64 iss] w fun e w' => ∃ v, e = .returned v ∧ OwnI 3 w.heap.size w' v (ofIss m iss) ∧ Below w.heap.size w w' := by
  have hnl := allOf_len m
  go_enter Tryd.func20, Tryd.ntmps20
  go_wp2_with fail
  refine (all_calls hc hm hl hk).mono ?_
  rintro e w1 ⟨v, rfl, hO, hb⟩
  obtain ⟨ad, cap, rfl⟩ := hO.len
  have HO := Lib.hid hO
  have HB := Lib.hid hb
  have HOf : Hid (ofIss m iss = ((allOf m).filter fun a => decide (a.2.1 = iss)).map (·.1)) := rfl
  have hs1 := hb.size
  generalize allOf m = L at HO hnl HOf ⊢
  clear hO hb hc hm hk
  go_wp2_with fail
  go_loopw [11, 5] (fun i u wq => ∃ k : Nat, k ≤ L.length ∧ i = .int .i64 k ∧ Hid (OwnI 3 w1.heap.size wq u (((L.take k).filter fun a => decide (a.2.1 = iss)).map (·.1))) ∧ Hid (Below w1.heap.size w1 wq)) (fun i _ _ => L.length - (intOf i).toNat)
  case atStart => exact ⟨0, Nat.zero_le _, rfl, OwnI.nil _ _ _, Below.refl _ _⟩
  case round =>
    obtain ⟨k, hk, rfl, hA, hB⟩ := hrel
    by_cases hkl : k < L.length
    · obtain ⟨g, cap', hv, hg1, hg2, hg3, hg4, hg5⟩ := HO.out.open (by intro e; rw [e] at hkl; simp at hkl)
      simp only [Value.slice.injEq, true_and] at hv
      obtain ⟨rfl, rfl⟩ := hv
      obtain ⟨x, hx⟩ : ∃ x, L[k]? = some x := ⟨_, List.getElem?_eq_getElem hkl⟩
      obtain ⟨e0, e1, e2, e3, e4⟩ := asCells_get L k x hx
      have d0 := (hB.out.cell (p := ⟨g, k * 5, none⟩) hg2).trans (hg5 _ _ e0)
      have d1 := (hB.out.cell (p := ⟨g, k * 5 + 1, none⟩) hg2).trans (hg5 _ _ e1)
      have d2 := (hB.out.cell (p := ⟨g, k * 5 + 2, none⟩) hg2).trans (hg5 _ _ e2)
      have d3 := (hB.out.cell (p := ⟨g, k * 5 + 3, none⟩) hg2).trans (hg5 _ _ e3)
      have d4 := (hB.out.cell (p := ⟨g, k * 5 + 4, none⟩) hg2).trans (hg5 _ _ e4)
      have hsr := hB.out.size
      unfold maxLen at hg4
      have HX := Lib.hid (take_snocA hx)
      obtain ⟨x1, x2, x3, x4, x5⟩ := x
      try dsimp only at d0 d1 d2 d3 d4
      clear hg5 e0 e1 e2 e3 e4 hx
      by_cases hxi : x2 = iss
      · have HT : Hid (((L.take (k + 1)).filter (fun a => decide (a.2.1 = iss))).map (·.1) = ((L.take k).filter (fun a => decide (a.2.1 = iss))).map (·.1) ++ [x1]) := by
          unfold Hid; rw [HX.out, List.filter_append, List.map_append]; simp [hxi]
        subst hxi
        have hfl : (((L.take k).filter fun a => decide (a.2.1 = x2)).map (·.1)).length ≤ 1000 := by
          rw [List.length_map]
          exact Nat.le_trans (List.length_filter_le _ _) (by rw [List.length_take]; omega)
        have HFL := Lib.hid hfl
        clear hfl
        go_wp2_with (at_builtin; refine wpList_app1 rfl _ _ 24 rfl 3 Tryd.underlying24 infoI w1.heap.size _ (((L.take k).filter fun a => decide (a.2.1 = x2)).map (·.1)) rfl ((hA.out.alloc _).alloc _) (wr.heap.size + 1) 1 x1 rfl ?c1 ?c2 ?c3 ?_)
        case c2 => have := HFL.out; rw [List.length_map] at this; omega
        case c3 => first | omega | (simp; omega) | (have := hB.out.size; simp [World.alloc]; omega)
        intro v5 w10 hO10 hb10
        have HO10 : Hid (OwnI 3 w1.heap.size w10 v5 (((L.take (k + 1)).filter fun a => decide (a.2.1 = x2)).map (·.1))) := by unfold Hid; rw [HT.out]; exact hO10
        have HB10 : Hid (Below w1.heap.size w1 w10) := Below.trans (show Below w1.heap.size w1 _ by have := hB.out; (repeat (first | exact Below.refl _ _ | assumption | refine Below.drew ?_ | refine below_many ?_ _ | refine Below.alloc ?_ (by first | (simp; done) | (simp; omega) | omega) _ | refine Below.setCell ?_ (by first | (simp; done) | (simp; omega) | omega) _))) hb10
        clear hO10 hb10 hA hB d0 d1 d2 d3 d4
        go_wp2_with fail
        go_roundw
        case rel => exact ⟨k + 1, by omega, by go_num, HO10, HB10⟩
        case measure => simp [intOf]; omega
      · have HT : Hid (((L.take (k + 1)).filter (fun a => decide (a.2.1 = iss))).map (·.1) = ((L.take k).filter (fun a => decide (a.2.1 = iss))).map (·.1)) := by
          unfold Hid; rw [HX.out, List.filter_append, List.map_append]; simp [hxi]
        have HO10 : Hid (OwnI 3 w1.heap.size (wr.alloc (Obj.cells #[.int .i64 x1, .int .i64 x2, .int .i64 x3, .int .i64 x4, .int .i64 x5] 29)) u5 (((L.take (k + 1)).filter fun a => decide (a.2.1 = iss)).map (·.1))) := by unfold Hid; rw [HT.out]; exact hA.out.alloc _
        have HB10 : Hid (Below w1.heap.size w1 (wr.alloc (Obj.cells #[.int .i64 x1, .int .i64 x2, .int .i64 x3, .int .i64 x4, .int .i64 x5] 29))) := by have := hB.out; unfold Hid; (repeat (first | exact Below.refl _ _ | assumption | refine Below.drew ?_ | refine below_many ?_ _ | refine Below.alloc ?_ (by first | (simp; done) | (simp; omega) | omega) _ | refine Below.setCell ?_ (by first | (simp; done) | (simp; omega) | omega) _))
        clear hA hB
        go_wp2_with fail
        go_roundw
        case rel => exact ⟨k + 1, by omega, by go_num, HO10, HB10⟩
        case measure => simp [intOf]; omega
    · obtain rfl : k = L.length := by omega
      have hA' := hA.out
      rw [List.take_length, ← HOf.out] at hA'
      have HA' := Lib.hid hA'
      clear hA hA'
      go_wp2_with fail
      go_ret
      exact ⟨_, rfl, ownsRow_base_a HA'.out hs1, HB.out.trans (hB.out.mono hs1)⟩

end Go.Proofs.YtfecgcdceegdlaaDoor
