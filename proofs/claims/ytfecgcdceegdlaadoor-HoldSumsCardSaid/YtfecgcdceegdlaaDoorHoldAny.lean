/- (*hold.Holdings).All at any holdings: all that have something, in whatever order (what slices.SortFunc does is a premise here). -/
import Derived.Test.YtfecgcdceegdlaaDoorHoldAt
namespace Go.Proofs.YtfecgcdceegdlaaDoor
open Go.Maps
open Go Go.RowKit
set_option linter.unusedSimpArgs false
set_option linter.unusedVariables false

/-- The cells of holdings, one behind the other. -/
def hCells : SpotM → List Value
  | [] => []
  | x :: L => .int .i64 x.1.1 :: .int .i64 x.1.2 :: .int .i64 x.2 :: hCells L
theorem hCells_length (L : SpotM) : (hCells L).length = L.length * 3 := by
  induction L with
  | nil => rfl
  | cons x L ih => simp only [hCells, List.length_cons, ih]; omega
theorem hCells_append (L M : SpotM) : hCells (L ++ M) = hCells L ++ hCells M := by
  induction L with
  | nil => rfl
  | cons x L ih => simp [hCells, ih]
/-- What slices.SortFunc makes of holdings of the call's own, by All's closure: the same ones, in another order. -/
def SortsH : Prop := ∀ (w : World) (base g cap : Nat) (L : SpotM), L ≠ [] → L.length ≤ 1000 → w.ownsRow base 64 3 (.slice (some ⟨g, 0, none⟩) L.length cap) L.length (hCells L) →
  Calls Tryd.prog 79 #[.slice (some ⟨g, 0, none⟩) L.length cap, .func (.func 80) #[] #[]] w fun e w' => e = .returned (.tuple #[]) ∧ Keep (fun x => x = g) w w' ∧
    ∃ L' : SpotM, L'.Perm L ∧ ∀ i x, L'[i]? = some x → w'.cell? ⟨g, i * 3, none⟩ = some (.int .i64 x.1.1) ∧ w'.cell? ⟨g, i * 3 + 1, none⟩ = some (.int .i64 x.1.2) ∧ w'.cell? ⟨g, i * 3 + 2, none⟩ = some (.int .i64 x.2)
def RdH (w : World) (v : Value) (L : SpotM) : Prop := ∃ ad cap, v = .slice ad L.length cap ∧ ∀ i x, L[i]? = some x → ∃ g, ad = some ⟨g, 0, none⟩ ∧ g < w.heap.size ∧ w.cell? ⟨g, i * 3, none⟩ = some (.int .i64 x.1.1) ∧ w.cell? ⟨g, i * 3 + 1, none⟩ = some (.int .i64 x.1.2) ∧ w.cell? ⟨g, i * 3 + 2, none⟩ = some (.int .i64 x.2)

set_option maxHeartbeats 2000000 in
set_option maxRecDepth 100000 in
theorem holdAll_calls (hSort : SortsH) {w : World} {b o : Nat} {mb : Option Nat} {m : SpotM} (hc : w.cell? ⟨b, o, none⟩ = some (.map mb)) (hm : SpotMap w mb m) (hl : m.length ≤ 1000) :
    Calls Tryd.prog 37 #[.pointer (some ⟨b, o, none⟩)] w fun e w' => ∃ v L, e = .returned v ∧ L.Perm m ∧ RdH w' v L ∧ Below w.heap.size w w' := by
  have HSo := Lib.hid hSort
  clear hSort
  have hlt : b < w.heap.size := World.block_lt_of_cell? w ⟨b, o, none⟩ hc
  obtain ⟨i0, hi, hz0, hz1, hz2⟩ := info_parts infoHolding
  go_enter Tryd.func37, Tryd.ntmps37
  go_wp2_with (first | (at_range; refine wpList_rng _ (by rfl) (.tmp 9) 51 (by rfl) 2 Tryd.underlying51 (by rfl) hm w.heap.size (by rfl) ?_; intro ob hR))
  have HR0 := Lib.hid hR
  have HMB : Hid (∀ x, mb = some x → x < w.heap.size) := hm.lt
  have HB0 : Hid (Below w.heap.size w (w.alloc ob)) := by unfold Hid; (repeat (first | exact Below.refl _ _ | assumption | refine Below.drew ?_ | refine below_many ?_ _ | refine Below.alloc ?_ (by first | (simp; done) | (simp; omega) | omega) _ | refine Below.setCell ?_ (by first | (simp; done) | (simp; omega) | omega) _))
  clear hR hm hc
  try go_frame
  go_loopw [3] (fun u wq => ∃ done left : SpotM, Hid ((done ++ left).Perm m) ∧ Hid (wq.ownsRow (w.heap.size + 1) 64 3 u done.length (hCells done)) ∧ Hid (Rng Tryd.prog 55 pairV i64V wq mb w.heap.size m left) ∧ Hid (Below w.heap.size w wq) ∧ w.heap.size < wq.heap.size) (fun _ wq => leftN wq mb w.heap.size)
  case atStart => exact ⟨[], m, List.Perm.refl _, World.ownsRow_nil _ _ _ _, HR0, HB0, by simp⟩
  case round =>
    obtain ⟨done, left, hn, hO, hR, hB, hs1⟩ := hrel
    have hdl := hn.out.length_eq
    rw [List.length_append] at hdl
    obtain ⟨n, hnd⟩ : ∃ n, n = done.length := ⟨_, rfl⟩
    have HND := Lib.hid hnd
    rw [← hnd] at hO hdl
    clear hnd
    have hR' := hR.out
    have hf : ∃ ad c, u3 = .slice ad n c := by
      rcases hO.out.2 with ⟨h1, h2⟩ | ⟨g, cap, cur, h1, _⟩
      · exact ⟨none, 0, by rw [h1, h2]⟩
      · exact ⟨_, cap, h1⟩
    obtain ⟨ad, c, hu⟩ := hf
    subst hu
    go_wp2_with (first | (at_next; refine wpList_rng_next _ (by rfl) (.tmp 10) (by rfl) (by rfl) hR' ?_ ?_))
    · intro hl0
      subst hl0
      rw [List.append_nil] at hn
      simp only [List.length_nil] at hdl
      have HO := Lib.hid hO.out
      rcases hO.out.2 with ⟨h1, h2⟩ | ⟨g, cap, cur, h1, hbg, hgg, _⟩
      · simp only [Value.slice.injEq] at h1
        obtain ⟨rfl, rfl, rfl⟩ := h1
        have hd0 : done = [] := List.length_eq_zero_iff.1 HND.out.symm
        clear h2 hdl hl
        go_wp2_with fail
        refine (sort_small 0 (by omega) _ _ _ _).mono ?_
        rintro e _ ⟨rfl, rfl⟩
        go_wp2_with fail
        go_ret
        exact ⟨_, [], rfl, by have := hn.out; rwa [hd0] at this, ⟨none, 0, rfl, fun i x h => by simp at h⟩, hB.out⟩
      · simp only [Value.slice.injEq, true_and] at h1
        obtain ⟨rfl, rfl⟩ := h1
        by_cases hd0 : done = []
        · have hn0 : n = 0 := by rw [HND.out, hd0]; rfl
          subst hn0
          clear hdl hl hgg
          go_wp2_with fail
          refine (sort_small 0 (by omega) _ _ _ _).mono ?_
          rintro e _ ⟨rfl, rfl⟩
          go_wp2_with fail
          go_ret
          exact ⟨_, [], rfl, by have := hn.out; rwa [hd0] at this, ⟨some ⟨g, 0, none⟩, c, rfl, fun i x h => by simp at h⟩, hB.out⟩
        · have hgl := (Array.getElem?_eq_some_iff.1 hgg).1
          have hOw : wr.ownsRow (w.heap.size + 1) 64 3 (.slice (some ⟨g, 0, none⟩) done.length c) done.length (hCells done) := by rw [← HND.out]; exact HO.out
          have hcon := HSo.out wr _ g c done hd0 (by rw [← HND.out]; omega) hOw
          rw [← HND.out] at hcon
          have HCn := Lib.hid hcon
          clear hcon hOw hdl hl hgg
          go_wp2_with fail
          refine HCn.out.mono ?_
          rintro e w5 ⟨rfl, hk5, L', hP5, hcell⟩
          have hs5 := hk5.size
          have HB5 : Hid (Below w.heap.size w w5) := hB.out.trans (hk5.below hB.out.size (fun x hx e => by omega))
          have HP5 : Hid (L'.Perm m) := hP5.trans hn.out
          have HLn : Hid (n = L'.length) := by unfold Hid; rw [HND.out, hP5.length_eq]
          have HCl := Lib.hid hcell
          clear hk5 hP5 hcell
          go_wp2_with fail
          go_ret
          exact ⟨_, L', rfl, HP5.out, ⟨some ⟨g, 0, none⟩, c, by rw [← HLn.out]; rfl, fun i x hx => ⟨g, rfl, by omega, HCl.out i x hx⟩⟩, HB5.out⟩
    · intro x1 x2 v l1 l2 w1 hl0 hR1 hk1 hsz1 hen
      subst hl0
      have hB1 : Below w.heap.size w w1 := hB.out.trans (hk1.below hB.out.size (fun k hk e => by omega))
      have hO1 : w1.ownsRow (w.heap.size + 1) 64 3 (.slice ad n c) n (hCells done) := by
        refine ⟨hO.out.1, ?_⟩
        rcases hO.out.2 with h | ⟨g, cap, cur, h1, hb, hg, hr⟩
        · exact .inl h
        · exact .inr ⟨g, cap, cur, h1, hb, (hk1.block g (Array.getElem?_eq_some_iff.1 hg).1 (by omega)).trans hg, hr⟩
      have hP1 : ((done ++ [((x1, x2), v)]) ++ (l1 ++ l2)).Perm m := by
        refine List.Perm.trans ?_ hn.out
        rw [List.append_assoc]
        exact List.Perm.append_left done (by simpa using (List.perm_middle (a := ((x1, x2), v)) (l₁ := l1) (l₂ := l2)).symm)
      have HP1 := Lib.hid hP1
      have hn0 : n ≤ 1000 := by simp at hdl; omega
      have HRL := Lib.hid hR.out.left_eq
      have HR1 := Lib.hid hR1
      have hs2 : w.heap.size < w1.heap.size := by omega
      clear hR hR' hB hk1 hR1 hn hP1 hl hO hsz1 hdl
      go_wp2_with (at_builtin; go_loud (refine wpList_append_own _ rfl _ _ 61 rfl (w.heap.size + 1) 64 i0 (.agg #[.int .i64 0, .int .i64 0, .int .i64 0]) 3 24 Tryd.underlying61 hi hz0 hz1 hz2 rfl (by decide) _ n (hCells done) rfl ((hO1.alloc _).alloc _) ⟨w1.heap.size + 1, 0, none⟩ 1 1 [.int .i64 x1, .int .i64 x2, .int .i64 v] rfl rfl (fun j u hj => by have h := cells_new3 (w1.alloc (Obj.cells #[.int .i64 x1, .int .i64 x2] 55)) #[.int .i64 x1, .int .i64 x2, .int .i64 v] 64 j u hj; rwa [show (w1.alloc (Obj.cells #[.int .i64 x1, .int .i64 x2] 55)).heap.size = w1.heap.size + 1 by simp] at h) (by simp [Value.oneCell']) (by unfold maxLen; omega) (by omega) (by simp; omega) ?_))
      intro v5 w10 hO10 hg10 _
      have HB10 : Hid (Below w.heap.size w w10) := Below.trans (show Below w.heap.size w _ by (repeat (first | exact Below.refl _ _ | assumption | refine Below.drew ?_ | refine below_many ?_ _ | refine Below.alloc ?_ (by first | (simp; done) | (simp; omega) | omega) _ | refine Below.setCell ?_ (by first | (simp; done) | (simp; omega) | omega) _))) ((Below.refl _ _).grown hg10 (by simp; omega) (fun k hk => by have h1 := (hO1.lt k hk).1; omega))
      have HR10 : Hid (Rng Tryd.prog 55 pairV i64V w10 mb w.heap.size m (l1 ++ l2)) := by
        have hsA : ((w1.alloc (Obj.cells #[.int .i64 x1, .int .i64 x2] 55)).alloc (Obj.cells #[.int .i64 x1, .int .i64 x2, .int .i64 v] 64)).heap.size = w1.heap.size + 2 := by simp
        refine (HR1.out.below (show Below w1.heap.size w1 ((w1.alloc (Obj.cells #[.int .i64 x1, .int .i64 x2] 55)).alloc (Obj.cells #[.int .i64 x1, .int .i64 x2, .int .i64 v] 64)) by (repeat (first | exact Below.refl _ _ | assumption | refine Below.drew ?_ | refine below_many ?_ _ | refine Below.alloc ?_ (by first | (simp; done) | (simp; omega) | omega) _ | refine Below.setCell ?_ (by first | (simp; done) | (simp; omega) | omega) _)))).of_heap (hg10.block _ (by rw [hsA]; omega) (fun e => by have := (hO1.lt _ e.symm).1; omega)) (fun x hx => hg10.block _ (by have := HMB.out x hx; rw [hsA]; omega) (fun e => by have h1 := (hO1.lt _ e.symm).1; have := HMB.out x hx; omega))
      have hs10 : w.heap.size < w10.heap.size := by have := hg10.size; simp at this; omega
      have HO10 : Hid (w10.ownsRow (w.heap.size + 1) 64 3 v5 (done ++ [((x1, x2), v)]).length (hCells (done ++ [((x1, x2), v)]))) := by
        unfold Hid
        rw [hCells_append, List.length_append, ← HND.out]
        exact hO10
      have HLe := Lib.hid HR10.out.left_eq
      clear hO10 hg10 hO1
      go_wp2_with fail
      go_roundw
      case rel => exact ⟨done ++ [((x1, x2), v)], l1 ++ l2, HP1, HO10, HR10, HB10, hs10⟩
      case measure => rw [HLe.out, HRL.out]; simp
theorem hold_all (hSort : SortsH) {w : World} {lo b : Nat} {m : SpotM} (h : HoldAt lo w b m) (hl : m.length ≤ 1000) :
    Calls Tryd.prog 37 #[.pointer (some ⟨b, 0, none⟩)] w fun e w' => ∃ v L, e = .returned v ∧ L.Perm m ∧ RdH w' v L ∧ Below w.heap.size w w' := by
  obtain ⟨r, hc, hf, hm, hr⟩ := h
  exact holdAll_calls hSort hc hm hl
end Go.Proofs.YtfecgcdceegdlaaDoor
