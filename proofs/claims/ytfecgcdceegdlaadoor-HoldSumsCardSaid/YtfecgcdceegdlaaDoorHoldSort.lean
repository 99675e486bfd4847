/- slices.SortFunc at holdings, by All's closure: the same ones in another order; by the shelf's contract laid at this seat (<Name>SortL). -/
import Derived.Test.YtfecgcdceegdlaaDoorSortL
import Derived.Test.YtfecgcdceegdlaaDoorHoldAny
namespace Go.Proofs.YtfecgcdceegdlaaDoor
open Go.Maps Go.Shelf Go.RowKit Go.Lib Go.Sort
open Go Go.RowKit
set_option linter.unusedSimpArgs false
set_option linter.unusedVariables false

abbrev HEl := (Int × Int) × Int
def encH (x : HEl) : List Value := [.int .i64 x.1.1, .int .i64 x.1.2, .int .i64 x.2]
def cmpI (x y : Int) : Int := if x < y then -1 else if y < x then 1 else 0
def cfH (x y : HEl) : Int := if cmpI x.1.1 y.1.1 ≠ 0 then cmpI x.1.1 y.1.1 else cmpI x.1.2 y.1.2
theorem nan_calls (x : Int) (w : World) : Calls Tryd.prog 111 #[.int .i64 x] w fun e w' => e = .returned (.bool false) ∧ w = w' := by
  go_enter Tryd.func111, Tryd.ntmps111
  go_wp2
  go_ret
  exact ⟨by simp, rfl⟩
theorem cmp_calls (x y : Int) (w : World) : Calls Tryd.prog 82 #[.int .i64 x, .int .i64 y] w fun e w' => e = .returned (.int .i64 (cmpI x y)) ∧ w = w' := by
  unfold cmpI
  by_cases h1 : x < y
  · rw [if_pos h1]
    go_enter Tryd.func82, Tryd.ntmps82
    go_wp2_with (go_at_call 111; refine (nan_calls _ _).mono ?_; rintro e w1 ⟨rfl, rfl⟩)
    go_ret
    exact ⟨rfl, rfl⟩
  · by_cases h2 : y < x
    · rw [if_neg h1, if_pos h2]
      go_enter Tryd.func82, Tryd.ntmps82
      go_wp2_with (go_at_call 111; refine (nan_calls _ _).mono ?_; rintro e w1 ⟨rfl, rfl⟩)
      go_ret
      exact ⟨rfl, rfl⟩
    · rw [if_neg h1, if_neg h2]
      have h1' : y ≤ x := by omega
      have h2' : x ≤ y := by omega
      go_enter Tryd.func82, Tryd.ntmps82
      go_wp2_with (go_at_call 111; refine (nan_calls _ _).mono ?_; rintro e w1 ⟨rfl, rfl⟩)
      go_ret
      exact ⟨rfl, rfl⟩
theorem or_calls {w : World} {g : Nat} {x y : Int} (c0 : w.cell? ⟨g, 0, none⟩ = some (.int .i64 x)) (c1 : w.cell? ⟨g, 1, none⟩ = some (.int .i64 y)) : Calls Tryd.prog 81 #[.slice (some ⟨g, 0, none⟩) 2 2] w fun e w' => e = .returned (.int .i64 (if x ≠ 0 then x else y)) ∧ w = w' := by
  by_cases hx : x = 0
  · rw [if_neg (by simpa using hx)]
    by_cases hy : y = 0
    · rw [hx] at c0
      rw [hy] at c1 ⊢
      clear hx hy
      go_enter Tryd.func81, Tryd.ntmps81
      go_wp2_with fail
      go_loop [8] (fun i => i = .int .i64 0 ∨ i = .int .i64 1 ∨ i = .int .i64 2) (fun i => 2 - (intOf i).toNat)
      case atStart => exact .inl rfl
      case round =>
        rcases hrel with rfl | rfl | rfl
        · go_wp2_with fail
          go_round
          case rel => exact .inr (.inl (by go_num))
          case measure => simp [intOf]
        · go_wp2_with fail
          go_round
          case rel => exact .inr (.inr (by go_num))
          case measure => simp [intOf]
        · go_wp2_with fail
          go_ret
          exact ⟨rfl, rfl⟩
    · rw [hx] at c0
      clear hx
      have hy' : (y != 0) = true := by simpa using hy
      go_enter Tryd.func81, Tryd.ntmps81
      go_wp2_with fail
      go_loop [8] (fun i => i = .int .i64 0 ∨ i = .int .i64 1) (fun i => 2 - (intOf i).toNat)
      case atStart => exact .inl rfl
      case round =>
        rcases hrel with rfl | rfl
        · go_wp2_with fail
          go_round
          case rel => exact .inr (by go_num)
          case measure => simp [intOf]
        · go_wp2_with fail
          go_ret
          exact ⟨rfl, rfl⟩
  · rw [if_pos hx]
    have hx' : (x != 0) = true := by simpa using hx
    go_enter Tryd.func81, Tryd.ntmps81
    go_wp2_with fail
    go_loop [8] (fun i => i = .int .i64 0) (fun i => 2 - (intOf i).toNat)
    case atStart => rfl
    case round =>
      obtain rfl := hrel
      go_wp2_with fail
      go_ret
      exact ⟨rfl, rfl⟩

theorem cell_top (w : World) (cs : Array Value) (E : TypeId) (j : Nat) (u : Value) (h : cs[j]? = some u) : (w.alloc (.cells cs E)).cell? ⟨w.heap.size, j, none⟩ = some u := by
  simp only [World.cell?, World.alloc, Array.getElem?_push, if_true]
  simpa using h
set_option maxHeartbeats 1000000 in
set_option maxRecDepth 100000 in
theorem clo_calls (x y : HEl) (W : World) : Calls Tryd.prog 80 #[.agg #[.int .i64 x.1.1, .int .i64 x.1.2, .int .i64 x.2], .agg #[.int .i64 y.1.1, .int .i64 y.1.2, .int .i64 y.2]] W fun e w' => e = .returned (.int .i64 (cfH x y)) ∧ ∃ q os', w' = grow (W.drewN q) os' := by
  obtain ⟨⟨x1, x2⟩, x3⟩ := x
  obtain ⟨⟨y1, y2⟩, y3⟩ := y
  unfold cfH
  simp only
  have hA := cmp_calls x1 y1
  have hB := cmp_calls x2 y2
  generalize cmpI x1 y1 = c1 at hA ⊢
  generalize cmpI x2 y2 = c2 at hB ⊢
  have HA := Lib.hid hA
  have HB := Lib.hid hB
  clear hA hB
  generalize hcr : (if c1 ≠ 0 then c1 else c2) = cr
  have HOr : Hid (∀ (w : World) (g : Nat), w.cell? ⟨g, 0, none⟩ = some (.int .i64 c1) → w.cell? ⟨g, 1, none⟩ = some (.int .i64 c2) → Calls Tryd.prog 81 #[.slice (some ⟨g, 0, none⟩) 2 2] w fun e w' => e = .returned (.int .i64 cr) ∧ w = w') := fun w g h0 h1 => by rw [← hcr]; exact or_calls h0 h1
  clear hcr
  go_enter Tryd.func80, Tryd.ntmps80
  go_wp2_with fail
  obtain ⟨w2, hw2⟩ : ∃ w2, w2 = (W.alloc (Obj.cells #[.int .i64 x1, .int .i64 x2, .int .i64 x3] 64)).alloc (Obj.cells #[.int .i64 y1, .int .i64 y2, .int .i64 y3] 64) := ⟨_, rfl⟩
  have p0 : w2.cell? ⟨W.heap.size, 0, none⟩ = some (.int .i64 x1) := by rw [hw2]; go_simp
  have p1 : w2.cell? ⟨W.heap.size, 1, none⟩ = some (.int .i64 x2) := by rw [hw2]; go_simp
  have p2 : w2.cell? ⟨W.heap.size + 1, 0, none⟩ = some (.int .i64 y1) := by rw [hw2]; go_simp
  have p3 : w2.cell? ⟨W.heap.size + 1, 1, none⟩ = some (.int .i64 y2) := by rw [hw2]; go_simp
  have hs : w2.heap.size = W.heap.size + 2 := by rw [hw2]; simp
  have hlt1 : W.heap.size < w2.heap.size := by omega
  have hlt2 : W.heap.size + 1 < w2.heap.size := by omega
  rw [← hw2]
  have HW2 := Lib.hid hw2
  clear hw2 hs
  have r0 : ∀ o : Obj, (w2.alloc o).cell? ⟨W.heap.size, 0, none⟩ = some (.int .i64 x1) := fun o => ((show Below w2.heap.size w2 (w2.alloc o) by (repeat (first | exact Below.refl _ _ | assumption | refine Below.drew ?_ | refine below_many ?_ _ | refine Below.alloc ?_ (by first | (simp; done) | (simp; omega) | omega) _ | refine Below.setCell ?_ (by first | (simp; done) | (simp; omega) | omega) _))).cell (p := ⟨W.heap.size, 0, none⟩) hlt1).trans p0
  have r1 : ∀ o : Obj, (w2.alloc o).cell? ⟨W.heap.size, 1, none⟩ = some (.int .i64 x2) := fun o => ((show Below w2.heap.size w2 (w2.alloc o) by (repeat (first | exact Below.refl _ _ | assumption | refine Below.drew ?_ | refine below_many ?_ _ | refine Below.alloc ?_ (by first | (simp; done) | (simp; omega) | omega) _ | refine Below.setCell ?_ (by first | (simp; done) | (simp; omega) | omega) _))).cell (p := ⟨W.heap.size, 1, none⟩) hlt1).trans p1
  have r2 : ∀ o : Obj, (w2.alloc o).cell? ⟨W.heap.size + 1, 0, none⟩ = some (.int .i64 y1) := fun o => ((show Below w2.heap.size w2 (w2.alloc o) by (repeat (first | exact Below.refl _ _ | assumption | refine Below.drew ?_ | refine below_many ?_ _ | refine Below.alloc ?_ (by first | (simp; done) | (simp; omega) | omega) _ | refine Below.setCell ?_ (by first | (simp; done) | (simp; omega) | omega) _))).cell (p := ⟨W.heap.size + 1, 0, none⟩) hlt2).trans p2
  have r3 : ∀ o : Obj, (w2.alloc o).cell? ⟨W.heap.size + 1, 1, none⟩ = some (.int .i64 y2) := fun o => ((show Below w2.heap.size w2 (w2.alloc o) by (repeat (first | exact Below.refl _ _ | assumption | refine Below.drew ?_ | refine below_many ?_ _ | refine Below.alloc ?_ (by first | (simp; done) | (simp; omega) | omega) _ | refine Below.setCell ?_ (by first | (simp; done) | (simp; omega) | omega) _))).cell (p := ⟨W.heap.size + 1, 1, none⟩) hlt2).trans p3
  go_region_held3 (fun wq => wq.cell? ⟨W.heap.size, 0, none⟩ = some (.int .i64 x1) ∧ wq.cell? ⟨W.heap.size, 1, none⟩ = some (.int .i64 x2) ∧ wq.cell? ⟨W.heap.size + 1, 0, none⟩ = some (.int .i64 y1) ∧ wq.cell? ⟨W.heap.size + 1, 1, none⟩ = some (.int .i64 y2))
    ((repeat' apply And.intro) <;> (first | (simp only [World.cell?_drew, p0, p1, p2, p3]; done) | (simp only [World.cell?_drew, r0]; done) | (simp only [World.cell?_drew, r1]; done) | (simp only [World.cell?_drew, r2]; done) | (simp only [World.cell?_drew, r3]; done)))
    (first
      | (go_at_call_of 82 (Value.int .i64 x1); refine (HA.out _).mono ?_; rintro e _ ⟨rfl, rfl⟩)
      | (go_at_call_of 82 (Value.int .i64 x2); refine (HB.out _).mono ?_; rintro e _ ⟨rfl, rfl⟩)
      | (go_at_call 81; refine (HOr.out _ _ (by rw [World.cell?_drew]; exact cell_top _ _ _ 0 _ rfl) (by rw [World.cell?_drew]; exact cell_top _ _ _ 1 _ rfl)).mono ?_; rintro e _ ⟨rfl, rfl⟩))
  all_goals
    go_wp2_with fail
    go_ret
    exact ⟨rfl, 1, _, by rw [HW2.out, alloc_eq_grow, alloc_eq_grow, alloc_eq_grow, grow_grow, grow_grow, drew_grow]; rfl⟩
theorem ltH (x y : HEl) : ltOf cfH x y = decide (x.1.1 < y.1.1 ∨ x.1.1 = y.1.1 ∧ x.1.2 < y.1.2) := by
  unfold ltOf cfH cmpI
  by_cases h1 : x.1.1 < y.1.1
  · simp [h1]
  · by_cases h2 : y.1.1 < x.1.1
    · have h3 : ¬ x.1.1 = y.1.1 := by omega
      simp [h1, h2, h3]
    · have h3 : x.1.1 = y.1.1 := by omega
      by_cases h4 : x.1.2 < y.1.2
      · simp [h3, h4]
      · by_cases h5 : y.1.2 < x.1.2 <;> simp [h3, h4, h5]
theorem swoH : SWO (ltOf cfH) where
  irrefl x := by rw [ltH]; simp
  trans x y z h1 h2 := by rw [ltH] at *; simp at *; omega
  ntrans x y z h1 h2 := by rw [ltH] at *; simp at *; omega
theorem hCells_at : ∀ (L : SpotM) (i : Nat) (x : HEl), L[i]? = some x → (hCells L)[i * 3]? = some (.int .i64 x.1.1) ∧ (hCells L)[i * 3 + 1]? = some (.int .i64 x.1.2) ∧ (hCells L)[i * 3 + 2]? = some (.int .i64 x.2)
  | [], i, x, h => by simp at h
  | y :: L, 0, x, h => by
    simp only [List.getElem?_cons_zero, Option.some.injEq] at h
    subst h
    simp [hCells]
  | y :: L, i + 1, x, h => by
    simp only [List.getElem?_cons_succ] at h
    have ih := hCells_at L i x h
    simp only [hCells]
    refine ⟨?_, ?_, ?_⟩
    · rw [show (i + 1) * 3 = i * 3 + 1 + 1 + 1 by omega]; simpa using ih.1
    · rw [show (i + 1) * 3 + 1 = (i * 3 + 1) + 1 + 1 + 1 by omega]; simpa using ih.2.1
    · rw [show (i + 1) * 3 + 2 = (i * 3 + 2) + 1 + 1 + 1 by omega]; simpa using ih.2.2
theorem flat_at (d : Array HEl) (i c : Nat) (hi : i < d.size) (hc : c < 3) : (flatK encH 3 d)[i * 3 + c]! = (encH d[i]!)[c]! := by
  rw [get_flatK encH 3 d (i * 3 + c) (by omega), show (i * 3 + c) / 3 = i by omega, show (i * 3 + c) % 3 = c by omega]
theorem holds_of_own {w : World} {base g cap : Nat} {L : SpotM} (hO : w.ownsRow base 64 3 (.slice (some ⟨g, 0, none⟩) L.length cap) L.length (hCells L)) : HoldsK encH 3 w g 0 L.toArray := by
  intro j hj
  rw [size_flatK] at hj
  simp only [List.size_toArray] at hj
  rw [Nat.zero_add]
  refine ⟨?_, World.ownsRow.frozenAt hO j⟩
  rw [World.ownsRow.cellAt hO j hj]
  obtain ⟨x, hx⟩ : ∃ x, L[j / 3]? = some x := ⟨_, List.getElem?_eq_getElem (by omega)⟩
  obtain ⟨e0, e1, e2⟩ := hCells_at L (j / 3) x hx
  have hd : L.toArray[j / 3]! = x := by simp [hx]
  rw [get_flatK encH 3 L.toArray j (by simpa using hj), hd]
  have : j % 3 = 0 ∨ j % 3 = 1 ∨ j % 3 = 2 := by omega
  rcases this with h | h | h
  · rw [show j = j / 3 * 3 by omega, show (j / 3 * 3) % 3 = 0 by omega, e0]; rfl
  · rw [show j = j / 3 * 3 + 1 by omega, show (j / 3 * 3 + 1) % 3 = 1 by omega, e1]; rfl
  · rw [show j = j / 3 * 3 + 2 by omega, show (j / 3 * 3 + 2) % 3 = 2 by omega, e2]; rfl
theorem keep_sort (w : World) (g n : Nat) (d : Array HEl) (os : Array Obj) (hg : g < w.heap.size) : Keep (fun x => x = g) w (sortWorldK encH 3 w g 0 n d os) := by
  refine ⟨rfl, rfl, rfl, size_sortWorldK_c encH 3 w g 0 n d os, fun k hk hn => ?_⟩
  unfold sortWorldK putRowK putRow
  simp only [grow, mapBlock, ahead]
  rw [Array.getElem?_append_left (by simpa using hk), Array.getElem?_modify, if_neg (fun e => hn e.symm)]
  rfl
theorem sortsH : SortsH := by
  intro w base g cap L hne hl hO
  have hblk : g < w.heap.size := by
    rcases hO.2 with ⟨h1, _⟩ | ⟨g', c', cur, h1, _, hh, _⟩
    · cases h1
    · simp only [Value.slice.injEq, Option.some.injEq, Addr.mk.injEq, true_and, and_true] at h1
      obtain ⟨rfl, _⟩ := h1
      exact (Array.getElem?_eq_some_iff.1 hh).1
  have hH := holds_of_own hO
  have hsz : L.toArray.size < 4611686018427387904 := by simp only [List.size_toArray]; omega
  have hcon := AnyQ.slices_SortFunc Tryd.sortH 3 Tryd.isAgg64 Tryd.sizeOf64 encH (fun _ => rfl) (fun x v hv => by simp [encH] at hv; rcases hv with rfl | rfl | rfl <;> rfl) cfH swoH 80 #[] g 0 cap L.toArray w (enters_of Tryd.func80 (by kernel_rfl) rfl) (fun _ _ _ _ x y => clo_calls x y _) hH hblk hsz
  change Calls Tryd.prog 79 _ _ _ at hcon
  refine hcon.mono ?_
  rintro e w' ⟨rfl, d', n, os, hP, _, rfl⟩
  obtain ⟨hs, _, hp⟩ := hP
  refine ⟨rfl, keep_sort w g n d' os hblk, d'.toList, ?_, fun i x hx => ?_⟩
  · have e1 : d'.extract 0 L.toArray.size = d' := by rw [← hs]; simp
    have e2 : L.toArray.extract 0 L.toArray.size = L.toArray := by simp
    rw [e1, e2] at hp
    exact hp
  · have hH' := holdsK_sortWorldK_c encH 3 w g 0 L.toArray d' n os hH hblk hs
    have hi : i < d'.size := by
      have := (List.getElem?_eq_some_iff.1 hx).1
      simpa using this
    have hd : d'[i]! = x := by
      have h3 : d'[i]? = some x := by simpa using hx
      rw [getElem!_pos d' i hi]
      exact (Array.getElem?_eq_some_iff.1 h3).2
    have h0 := (hH' (i * 3 + 0) (by rw [size_flatK]; omega)).1
    have h1 := (hH' (i * 3 + 1) (by rw [size_flatK]; omega)).1
    have h2 := (hH' (i * 3 + 2) (by rw [size_flatK]; omega)).1
    rw [flat_at d' i 0 hi (by omega), hd, Nat.zero_add, Nat.add_zero] at h0
    rw [flat_at d' i 1 hi (by omega), hd, Nat.zero_add] at h1
    rw [flat_at d' i 2 hi (by omega), hd, Nat.zero_add] at h2
    exact ⟨h0, h1, h2⟩
end Go.Proofs.YtfecgcdceegdlaaDoor
