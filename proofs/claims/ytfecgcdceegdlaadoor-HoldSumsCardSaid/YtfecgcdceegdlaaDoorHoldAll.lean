/- Package hold: Sum; All and Of where at most one place has something; holdings in memory as a whole. -/
import Derived.Test.YtfecgcdceegdlaaDoorHold
import Derived.Deep.RegionLaw
namespace Go.Proofs.YtfecgcdceegdlaaDoor
open Go.Maps
open Go Go.RowKit
set_option linter.unusedSimpArgs false
set_option linter.unusedVariables false

set_option maxRecDepth 100000 in
theorem bitsLen0 (w : World) : Calls Tryd.prog 110 #[.int .u64 0] w fun e w' => (∃ k : Int, e = .returned (.int .i64 k)) ∧ w = w' := by
  go_enter Tryd.func110, Tryd.ntmps110
  go_wp2
  go_ret
  exact ⟨⟨_, rfl⟩, rfl⟩
set_option maxRecDepth 100000 in
theorem bitsLen1 (w : World) : Calls Tryd.prog 110 #[.int .u64 1] w fun e w' => (∃ k : Int, e = .returned (.int .i64 k)) ∧ w = w' := by
  go_enter Tryd.func110, Tryd.ntmps110
  go_wp2
  go_ret
  exact ⟨⟨_, rfl⟩, rfl⟩
theorem insertion_small (n : Nat) (hn : n ≤ 1) (a : Option Addr) (l c : Nat) (f : Value) (w : World) : Calls Tryd.prog 126 #[.slice a l c, .int .i64 0, .int .i64 n, f] w fun e w' => e = .returned (.tuple #[]) ∧ w = w' := by
  have h1 : ¬ (1 : Int) < n := by omega
  go_enter Tryd.func126, Tryd.ntmps126
  go_wp2_with fail
  go_loop [8] (fun i => i = .int .i64 1) (fun i => 0)
  case atStart => rfl
  case round =>
    obtain rfl := hrel
    go_wp2_with fail
    go_end0
    exact ⟨rfl, rfl⟩
theorem pdq_small (n : Nat) (hn : n ≤ 1) (a : Option Addr) (l c : Nat) (lim : Int) (f : Value) (w : World) : Calls Tryd.prog 109 #[.slice a l c, .int .i64 0, .int .i64 n, .int .i64 lim, f] w fun e w' => e = .returned (.tuple #[]) ∧ w = w' := by
  go_enter Tryd.func109, Tryd.ntmps109
  go_wp2_with fail
  go_loop [1, 2] (fun i j => i = .int .i64 0 ∧ j = .int .i64 n) (fun _ _ => 0)
  case atStart => exact ⟨rfl, rfl⟩
  case round =>
    obtain ⟨rfl, rfl⟩ := hrel
    go_wp2_with fail
    refine (insertion_small n hn _ _ _ _ _).mono ?_
    rintro e _ ⟨rfl, rfl⟩
    go_wp2_with fail
    ((try simp only [Exit.inBlock, Exit.then]); refine bodyPost_ret (results_none rfl _ _ _) rfl ?_)
    exact ⟨rfl, rfl⟩
theorem sort_small (n : Nat) (hn : n ≤ 1) (a : Option Addr) (c : Nat) (f : Value) (w : World) : Calls Tryd.prog 79 #[.slice a n c, f] w fun e w' => e = .returned (.tuple #[]) ∧ w = w' := by
  have HK : Hid (∀ w, Calls Tryd.prog 110 #[.int .u64 n] w fun e w' => (∃ k : Int, e = .returned (.int .i64 k)) ∧ w = w') := by
    have : n = 0 ∨ n = 1 := by omega
    rcases this with rfl | rfl
    · exact bitsLen0
    · exact bitsLen1
  go_enter Tryd.func79, Tryd.ntmps79
  go_wp2_with fail
  refine (HK.out _).mono ?_
  rintro e _ ⟨⟨k, rfl⟩, rfl⟩
  go_wp2_with fail
  refine (pdq_small n hn _ _ _ _ _ _).mono ?_
  rintro e _ ⟨rfl, rfl⟩
  go_wp2_with fail
  go_end0
  exact ⟨rfl, rfl⟩

/-- The sum of an asset. -/
def sumH (m : SpotM) (a : Int) : Int := ((m.filter fun x => decide (x.1.2 = a)).map (·.2)).sum
theorem sumH_nil (a : Int) : sumH [] a = 0 := rfl
theorem sumH_cons (x : (Int × Int) × Int) (m : SpotM) (a : Int) : sumH (x :: m) a = (if x.1.2 = a then x.2 else 0) + sumH m a := by
  unfold sumH
  rw [List.filter_cons]
  by_cases h : x.1.2 = a
  · simp [h]
  · simp [h]
theorem sumH_append (m n : SpotM) (a : Int) : sumH (m ++ n) a = sumH m a + sumH n a := by
  unfold sumH
  rw [List.filter_append, List.map_append, List.sum_append]
theorem sumH_perm {m n : SpotM} (h : m.Perm n) (a : Int) : sumH m a = sumH n a := by
  induction h with
  | nil => rfl
  | cons x h ih => rw [sumH_cons, sumH_cons, ih]
  | swap x y l => simp only [sumH_cons]; omega
  | trans h1 h2 ih1 ih2 => exact ih1.trans ih2
theorem sumH_bd {m : SpotM} (h : ∀ x ∈ m, 0 ≤ x.2 ∧ x.2 ≤ 1000000000000) (a : Int) : 0 ≤ sumH m a ∧ sumH m a ≤ 1000000000000 * (m.length : Int) := by
  induction m with
  | nil => simp [sumH_nil]
  | cons x m ih =>
    have ih := ih fun y hy => h y (List.mem_cons_of_mem _ hy)
    have hx := h x List.mem_cons_self
    rw [sumH_cons, List.length_cons]
    split <;> omega

set_option maxHeartbeats 2000000 in
set_option maxRecDepth 100000 in
theorem holdSum_calls {w : World} {b o : Nat} {mb : Option Nat} {m : SpotM} (hc : w.cell? ⟨b, o, none⟩ = some (.map mb)) (hm : SpotMap w mb m) (hl : m.length ≤ 1000) (hbd : ∀ x ∈ m, 0 ≤ x.2 ∧ x.2 ≤ 1000000000000) (a : Int) :
    Calls Tryd.prog 35 #[.pointer (some ⟨b, o, none⟩), .int .i64 a] w fun e w' => e = .returned (.int .i64 (sumH m a)) ∧ Below w.heap.size w w' := by
  have HBD := Lib.hid hbd
  have hlt : b < w.heap.size := World.block_lt_of_cell? w ⟨b, o, none⟩ hc
  clear hbd
  go_enter Tryd.func35, Tryd.ntmps35
  go_wp2_with (first | (at_range; refine wpList_rng _ (by rfl) (.tmp 11) 51 (by rfl) 2 Tryd.underlying51 (by rfl) hm w.heap.size (by rfl) ?_; intro ob hR))
  have HR0 := Lib.hid hR
  have HB0 : Hid (Below w.heap.size w (w.alloc ob)) := by unfold Hid; (repeat (first | exact Below.refl _ _ | assumption | refine Below.drew ?_ | refine below_many ?_ _ | refine Below.alloc ?_ (by first | (simp; done) | (simp; omega) | omega) _ | refine Below.setCell ?_ (by first | (simp; done) | (simp; omega) | omega) _))
  clear hR hm hc
  try go_frame
  go_loopw [5] (fun n wq => ∃ done left, n = .int .i64 (sumH done a) ∧ Hid (Rng Tryd.prog 55 pairV i64V wq mb w.heap.size m left) ∧ Hid ((done ++ left).Perm m) ∧ Hid (Below w.heap.size w wq) ∧ w.heap.size < wq.heap.size) (fun _ wq => leftN wq mb w.heap.size)
  case atStart => exact ⟨[], m, by rw [sumH_nil], HR0, List.Perm.refl _, HB0, by simp⟩
  case round =>
    obtain ⟨done, left, rfl, hR, hP, hB, hs1⟩ := hrel
    have hR' := hR.out
    go_wp2_with (first | (at_next; refine wpList_rng_next _ (by rfl) (.tmp 12) (by rfl) (by rfl) hR' ?_ ?_))
    · intro hl
      subst hl
      rw [List.append_nil] at hP
      have hS := sumH_perm hP.out a
      have HS := Lib.hid hS
      clear hS
      go_wp2_with fail
      go_ret
      exact ⟨by rw [← HS.out]; rfl, hB.out⟩
    · intro x1 x2 v l1 l2 w1 hl hR1 hk1 hsz1 hen
      subst hl
      have hmem : ((x1, x2), v) ∈ m := hP.out.subset (by simp)
      have hB1 : Below w.heap.size w w1 := hB.out.trans (hk1.below hB.out.size (fun k hk e => by omega))
      have hv := HBD.out _ hmem
      have hP1 : ((done ++ [((x1, x2), v)]) ++ (l1 ++ l2)).Perm m := by
        refine List.Perm.trans ?_ hP.out
        rw [List.append_assoc]
        exact List.Perm.append_left done (by simpa using (List.perm_middle (a := ((x1, x2), v)) (l₁ := l1) (l₂ := l2)).symm)
      have hsd := sumH_perm hP1 a
      rw [sumH_append] at hsd
      have h1 := sumH_bd (m := done ++ [((x1, x2), v)]) (fun y hy => HBD.out y (hP1.subset (List.mem_append_left _ hy))) a
      have h2 := sumH_bd (m := done) (fun y hy => HBD.out y (hP1.subset (List.mem_append_left _ (List.mem_append_left _ hy)))) a
      have hln := hP1.length_eq
      simp only [List.length_append, List.length_cons, List.length_nil] at hln h1
      have hs3 : sumH (done ++ [((x1, x2), v)]) a = sumH done a + (if x2 = a then v else 0) := by rw [sumH_append, sumH_cons, sumH_nil]; simp
      have HRL := Lib.hid hR.out.left_eq
      have HR1 := Lib.hid hR1
      have HP1 := Lib.hid hP1
      have hs2 : w.heap.size < w1.heap.size := by omega
      have hd1 : sumH done a ≤ 1000000000000 * 1000 := by omega
      have hd0 := h2.1
      clear hR hR' hB hk1 hsd hln h1 h2 hP hP1 hmem hR1
      have HS3 := Lib.hid hs3
      clear hs3
      by_cases hxa : x2 = a
      · rw [if_pos hxa] at HS3
        generalize sumH done a = sd at HS3 hd0 hd1 ⊢
        go_wp2_with fail
        go_roundw
        case rel => exact ⟨done ++ [((x1, x2), v)], l1 ++ l2, by rw [HS3.out], HR1.out.below (by (repeat (first | exact Below.refl _ _ | assumption | refine Below.drew ?_ | refine below_many ?_ _ | refine Below.alloc ?_ (by first | (simp; done) | (simp; omega) | omega) _ | refine Below.setCell ?_ (by first | (simp; done) | (simp; omega) | omega) _))), HP1, by unfold Hid; (repeat (first | exact Below.refl _ _ | assumption | refine Below.drew ?_ | refine below_many ?_ _ | refine Below.alloc ?_ (by first | (simp; done) | (simp; omega) | omega) _ | refine Below.setCell ?_ (by first | (simp; done) | (simp; omega) | omega) _)), by simp; omega⟩
        case measure => rw [(HR1.out.below (show Below w1.heap.size w1 _ by (repeat (first | exact Below.refl _ _ | assumption | refine Below.drew ?_ | refine below_many ?_ _ | refine Below.alloc ?_ (by first | (simp; done) | (simp; omega) | omega) _ | refine Below.setCell ?_ (by first | (simp; done) | (simp; omega) | omega) _)))).left_eq, HRL.out]; simp
      · rw [if_neg hxa] at HS3
        generalize sumH done a = sd at HS3 hd0 hd1 ⊢
        go_wp2_with fail
        go_roundw
        case rel => exact ⟨done ++ [((x1, x2), v)], l1 ++ l2, by rw [HS3.out]; simp, HR1.out.below (by (repeat (first | exact Below.refl _ _ | assumption | refine Below.drew ?_ | refine below_many ?_ _ | refine Below.alloc ?_ (by first | (simp; done) | (simp; omega) | omega) _ | refine Below.setCell ?_ (by first | (simp; done) | (simp; omega) | omega) _))), HP1, by unfold Hid; (repeat (first | exact Below.refl _ _ | assumption | refine Below.drew ?_ | refine below_many ?_ _ | refine Below.alloc ?_ (by first | (simp; done) | (simp; omega) | omega) _ | refine Below.setCell ?_ (by first | (simp; done) | (simp; omega) | omega) _)), by simp; omega⟩
        case measure => rw [(HR1.out.below (show Below w1.heap.size w1 _ by (repeat (first | exact Below.refl _ _ | assumption | refine Below.drew ?_ | refine below_many ?_ _ | refine Below.alloc ?_ (by first | (simp; done) | (simp; omega) | omega) _ | refine Below.setCell ?_ (by first | (simp; done) | (simp; omega) | omega) _)))).left_eq, HRL.out]; simp

theorem cells_new3 (w : World) (cs : Array Value) (E : TypeId) (j : Nat) (u : Value) (h : cs.toList[j]? = some u) : (w.alloc (.cells cs E)).cell? ((⟨w.heap.size, 0, none⟩ : Addr).add j) = some u := by
  rw [show (⟨w.heap.size, 0, none⟩ : Addr).add j = ⟨w.heap.size, j, none⟩ by cases j <;> simp [Addr.add]]
  simp only [World.cell?, World.alloc, Array.getElem?_push, if_true]
  simpa using h
theorem infoHolding : (Tryd.prog.info? 64).map (fun i => (i.zero, i.size, i.bytes)) = some (some (.agg #[.int .i64 0, .int .i64 0, .int .i64 0]), 3, 24) := by kernel_rfl
set_option maxHeartbeats 2000000 in
set_option maxRecDepth 100000 in
theorem holdAll_small {w : World} {b o : Nat} {mb : Option Nat} {m : SpotM} (hc : w.cell? ⟨b, o, none⟩ = some (.map mb)) (hm : SpotMap w mb m) (hl : m.length ≤ 1) :
    Calls Tryd.prog 37 #[.pointer (some ⟨b, o, none⟩)] w fun e w' => ∃ ad c, e = .returned (.slice ad m.length c) ∧ Below w.heap.size w w' := by
  have hlt : b < w.heap.size := World.block_lt_of_cell? w ⟨b, o, none⟩ hc
  obtain ⟨i0, hi, hz0, hz1, hz2⟩ := info_parts infoHolding
  go_enter Tryd.func37, Tryd.ntmps37
  go_wp2_with (first | (at_range; refine wpList_rng _ (by rfl) (.tmp 9) 51 (by rfl) 2 Tryd.underlying51 (by rfl) hm w.heap.size (by rfl) ?_; intro ob hR))
  have HR0 := Lib.hid hR
  have HMB : Hid (∀ x, mb = some x → x < w.heap.size) := hm.lt
  have HB0 : Hid (Below w.heap.size w (w.alloc ob)) := by unfold Hid; (repeat (first | exact Below.refl _ _ | assumption | refine Below.drew ?_ | refine below_many ?_ _ | refine Below.alloc ?_ (by first | (simp; done) | (simp; omega) | omega) _ | refine Below.setCell ?_ (by first | (simp; done) | (simp; omega) | omega) _))
  clear hR hm hc
  try go_frame
  go_loopw [3] (fun u wq => ∃ (n : Nat) (left : SpotM) (xs : List Value), n + left.length = m.length ∧ Hid (wq.ownsRow (w.heap.size + 1) 64 3 u n xs) ∧ Hid (Rng Tryd.prog 55 pairV i64V wq mb w.heap.size m left) ∧ Hid (Below w.heap.size w wq) ∧ w.heap.size < wq.heap.size) (fun _ wq => leftN wq mb w.heap.size)
  case atStart => exact ⟨0, m, [], by simp, World.ownsRow_nil _ _ _ _, HR0, HB0, by simp⟩
  case round =>
    obtain ⟨n, left, xs, hn, hO, hR, hB, hs1⟩ := hrel
    have hR' := hR.out
    have hf : ∃ ad c, u3 = .slice ad n c := by
      rcases hO.out.2 with ⟨h1, h2⟩ | ⟨g, cap, cur, h1, _⟩
      · exact ⟨none, 0, by rw [h1, h2]⟩
      · exact ⟨_, cap, h1⟩
    obtain ⟨ad, c, hu⟩ := hf
    subst hu
    go_wp2_with (first | (at_next; refine wpList_rng_next _ (by rfl) (.tmp 10) (by rfl) (by rfl) hR' ?_ ?_))
    · intro hl0
      subst hl0
      have hn' : n = m.length := by simpa using hn
      have hn1 : n ≤ 1 := by omega
      have HN := Lib.hid hn'
      clear hn hn' hl
      go_wp2_with fail
      refine (sort_small n hn1 _ _ _ _).mono ?_
      rintro e _ ⟨rfl, rfl⟩
      go_wp2_with fail
      go_ret
      exact ⟨ad, c, by rw [← HN.out]; rfl, hB.out⟩
    · intro x1 x2 v l1 l2 w1 hl0 hR1 hk1 hsz1 hen
      subst hl0
      have hB1 : Below w.heap.size w w1 := hB.out.trans (hk1.below hB.out.size (fun k hk e => by omega))
      have hO1 : w1.ownsRow (w.heap.size + 1) 64 3 (.slice ad n c) n xs := by
        refine ⟨hO.out.1, ?_⟩
        rcases hO.out.2 with h | ⟨g, cap, cur, h1, hb, hg, hr⟩
        · exact .inl h
        · exact .inr ⟨g, cap, cur, h1, hb, (hk1.block g (Array.getElem?_eq_some_iff.1 hg).1 (by omega)).trans hg, hr⟩
      have hn2 : n + (l1 ++ l2).length + 1 = m.length := by simp at hn ⊢; omega
      have HN2 := Lib.hid hn2
      have hn0 : n ≤ 1 := by omega
      have HRL := Lib.hid hR.out.left_eq
      have HR1 := Lib.hid hR1
      have hs2 : w.heap.size < w1.heap.size := by omega
      clear hR hR' hB hk1 hR1 hn hn2 hl hO hsz1
      go_wp2_with (at_builtin; go_loud (refine wpList_append_own _ rfl _ _ 61 rfl (w.heap.size + 1) 64 i0 (.agg #[.int .i64 0, .int .i64 0, .int .i64 0]) 3 24 Tryd.underlying61 hi hz0 hz1 hz2 rfl (by decide) _ n xs rfl ((hO1.alloc _).alloc _) ⟨w1.heap.size + 1, 0, none⟩ 1 1 [.int .i64 x1, .int .i64 x2, .int .i64 v] rfl rfl (fun j u hj => by have h := cells_new3 (w1.alloc (Obj.cells #[.int .i64 x1, .int .i64 x2] 55)) #[.int .i64 x1, .int .i64 x2, .int .i64 v] 64 j u hj; rwa [show (w1.alloc (Obj.cells #[.int .i64 x1, .int .i64 x2] 55)).heap.size = w1.heap.size + 1 by simp] at h) (by simp [Value.oneCell']) (by unfold maxLen; omega) (by omega) (by simp; omega) ?_))
      intro v5 w10 hO10 hg10 _
      have HB10 : Hid (Below w.heap.size w w10) := Below.trans (show Below w.heap.size w _ by (repeat (first | exact Below.refl _ _ | assumption | refine Below.drew ?_ | refine below_many ?_ _ | refine Below.alloc ?_ (by first | (simp; done) | (simp; omega) | omega) _ | refine Below.setCell ?_ (by first | (simp; done) | (simp; omega) | omega) _))) ((Below.refl _ _).grown hg10 (by simp; omega) (fun k hk => by have h1 := (hO1.lt k hk).1; omega))
      have HR10 : Hid (Rng Tryd.prog 55 pairV i64V w10 mb w.heap.size m (l1 ++ l2)) := by
        have hsA : ((w1.alloc (Obj.cells #[.int .i64 x1, .int .i64 x2] 55)).alloc (Obj.cells #[.int .i64 x1, .int .i64 x2, .int .i64 v] 64)).heap.size = w1.heap.size + 2 := by simp
        refine (HR1.out.below (show Below w1.heap.size w1 ((w1.alloc (Obj.cells #[.int .i64 x1, .int .i64 x2] 55)).alloc (Obj.cells #[.int .i64 x1, .int .i64 x2, .int .i64 v] 64)) by (repeat (first | exact Below.refl _ _ | assumption | refine Below.drew ?_ | refine below_many ?_ _ | refine Below.alloc ?_ (by first | (simp; done) | (simp; omega) | omega) _ | refine Below.setCell ?_ (by first | (simp; done) | (simp; omega) | omega) _)))).of_heap (hg10.block _ (by rw [hsA]; omega) (fun e => by have := (hO1.lt _ e.symm).1; omega)) (fun x hx => hg10.block _ (by have := HMB.out x hx; rw [hsA]; omega) (fun e => by have h1 := (hO1.lt _ e.symm).1; have := HMB.out x hx; omega))
      have hs10 : w.heap.size < w10.heap.size := by have := hg10.size; simp at this; omega
      have HO10 := Lib.hid hO10
      have HLe := Lib.hid HR10.out.left_eq
      clear hO10 hg10 hO1
      go_wp2_with fail
      go_roundw
      case rel => exact ⟨n + 1, l1 ++ l2, _, by have := HN2.out; omega, HO10, HR10, HB10, hs10⟩
      case measure => rw [HLe.out, HRL.out]; simp
end Go.Proofs.YtfecgcdceegdlaaDoor
