/- slices.SortedFunc(maps.Keys(m), ..) by (*pledge/caps.Caps).All's closure: the keys, sorted by the first number, then the second. (Written by gen_sort2.py.) -/
import Derived.Test.YtkdmedmlbglgmaaDoorIterL
import Derived.Test.YtkdmedmlbglgmaaDoorCmpP
import Derived.Test.YtkdmedmlbglgmaaDoorSort2L
import Derived.Deep.RegionHeld3
namespace Go.Proofs.YtkdmedmlbglgmaaDoor
open Go.Maps Go.Shelf Go.RowKit Go.Lib Go.Sort
open Go Go.RowKit
set_option linter.unusedSimpArgs false
set_option linter.unusedVariables false

set_option maxHeartbeats 1000000 in
set_option maxRecDepth 100000 in
theorem cloL_calls (x y : Int × Int) (W : World) : Calls Tryd.prog 41 #[.agg #[.int .i64 x.1, .int .i64 x.2], .agg #[.int .i64 y.1, .int .i64 y.2]] W fun e w' => e = .returned (.int .i64 (cfP x y)) ∧ ∃ q os', w' = grow (W.drewN q) os' := by
  obtain ⟨x1, x2⟩ := x
  obtain ⟨y1, y2⟩ := y
  unfold cfP
  simp only
  have hA := cmpP_calls x1 y1
  have hB := cmpP_calls x2 y2
  generalize cmpNum x1 y1 = c1 at hA ⊢
  generalize cmpNum x2 y2 = c2 at hB ⊢
  have HA := Lib.hid hA
  have HB := Lib.hid hB
  clear hA hB
  generalize hcr : (if c1 ≠ 0 then c1 else c2) = cr
  have HOr : Hid (∀ (w : World) (g : Nat), w.cell? ⟨g, 0, none⟩ = some (.int .i64 c1) → w.cell? ⟨g, 1, none⟩ = some (.int .i64 c2) → Calls Tryd.prog 42 #[.slice (some ⟨g, 0, none⟩) 2 2] w fun e w' => e = .returned (.int .i64 cr) ∧ w = w') := fun w g h0 h1 => by rw [← hcr]; exact orP_calls h0 h1
  clear hcr
  go_enter Tryd.func41, Tryd.ntmps41
  go_wp2_with fail
  obtain ⟨w2, hw2⟩ : ∃ w2, w2 = (W.alloc (Obj.cells #[.int .i64 x1, .int .i64 x2] 30)).alloc (Obj.cells #[.int .i64 y1, .int .i64 y2] 30) := ⟨_, rfl⟩
  have p0 : w2.cell? ⟨W.heap.size, 0, none⟩ = some (.int .i64 x1) := by rw [hw2]; go_simp
  have p1 : w2.cell? ⟨W.heap.size, 1, none⟩ = some (.int .i64 x2) := by rw [hw2]; go_simp
  have p2 : w2.cell? ⟨W.heap.size + 1, 0, none⟩ = some (.int .i64 y1) := by rw [hw2]; go_simp
  have p3 : w2.cell? ⟨W.heap.size + 1, 1, none⟩ = some (.int .i64 y2) := by rw [hw2]; go_simp
  have hs : w2.heap.size = W.heap.size + 2 := by rw [hw2]; simp
  have hlt1 : W.heap.size < w2.heap.size := by omega
  have hlt2 : W.heap.size + 1 < w2.heap.size := by omega
  rw [← hw2]
  have HW2 := Lib.hid hw2
  clear hw2 hs
  have r0 : ∀ o : Obj, (w2.alloc o).cell? ⟨W.heap.size, 0, none⟩ = some (.int .i64 x1) := fun o => ((show Below w2.heap.size w2 (w2.alloc o) by (repeat (first | exact Below.refl _ _ | assumption | refine Below.drew ?_ | refine below_many ?_ _ | refine Below.alloc ?_ (by first | (simp; done) | (simp; omega) | omega) _ | refine Below.setCell ?_ (by first | (simp; done) | (simp; omega) | omega) _))).cell (p := ⟨W.heap.size, 0, none⟩) hlt1).trans p0
  have r1 : ∀ o : Obj, (w2.alloc o).cell? ⟨W.heap.size, 1, none⟩ = some (.int .i64 x2) := fun o => ((show Below w2.heap.size w2 (w2.alloc o) by (repeat (first | exact Below.refl _ _ | assumption | refine Below.drew ?_ | refine below_many ?_ _ | refine Below.alloc ?_ (by first | (simp; done) | (simp; omega) | omega) _ | refine Below.setCell ?_ (by first | (simp; done) | (simp; omega) | omega) _))).cell (p := ⟨W.heap.size, 1, none⟩) hlt1).trans p1
  have r2 : ∀ o : Obj, (w2.alloc o).cell? ⟨W.heap.size + 1, 0, none⟩ = some (.int .i64 y1) := fun o => ((show Below w2.heap.size w2 (w2.alloc o) by (repeat (first | exact Below.refl _ _ | assumption | refine Below.drew ?_ | refine below_many ?_ _ | refine Below.alloc ?_ (by first | (simp; done) | (simp; omega) | omega) _ | refine Below.setCell ?_ (by first | (simp; done) | (simp; omega) | omega) _))).cell (p := ⟨W.heap.size + 1, 0, none⟩) hlt2).trans p2
  have r3 : ∀ o : Obj, (w2.alloc o).cell? ⟨W.heap.size + 1, 1, none⟩ = some (.int .i64 y2) := fun o => ((show Below w2.heap.size w2 (w2.alloc o) by (repeat (first | exact Below.refl _ _ | assumption | refine Below.drew ?_ | refine below_many ?_ _ | refine Below.alloc ?_ (by first | (simp; done) | (simp; omega) | omega) _ | refine Below.setCell ?_ (by first | (simp; done) | (simp; omega) | omega) _))).cell (p := ⟨W.heap.size + 1, 1, none⟩) hlt2).trans p3
  go_region_held3 (fun wq => wq.cell? ⟨W.heap.size, 0, none⟩ = some (.int .i64 x1) ∧ wq.cell? ⟨W.heap.size, 1, none⟩ = some (.int .i64 x2) ∧ wq.cell? ⟨W.heap.size + 1, 0, none⟩ = some (.int .i64 y1) ∧ wq.cell? ⟨W.heap.size + 1, 1, none⟩ = some (.int .i64 y2))
    ((repeat' apply And.intro) <;> (first | (simp only [World.cell?_drew, p0, p1, p2, p3]; done) | (simp only [World.cell?_drew, r0]; done) | (simp only [World.cell?_drew, r1]; done) | (simp only [World.cell?_drew, r2]; done) | (simp only [World.cell?_drew, r3]; done)))
    (first
      | (go_at_call_of 43 (Value.int .i64 x1); refine (HA.out _).mono ?_; rintro e _ ⟨rfl, rfl⟩)
      | (go_at_call_of 43 (Value.int .i64 x2); refine (HB.out _).mono ?_; rintro e _ ⟨rfl, rfl⟩)
      | (go_at_call 42; refine (HOr.out _ _ (by rw [World.cell?_drew]; exact cellP_top _ _ _ 0 _ rfl) (by rw [World.cell?_drew]; exact cellP_top _ _ _ 1 _ rfl)).mono ?_; rintro e _ ⟨rfl, rfl⟩))
  all_goals
    go_wp2_with fail
    go_ret
    exact ⟨rfl, 1, _, by rw [HW2.out, alloc_eq_grow, alloc_eq_grow, alloc_eq_grow, grow_grow, grow_grow, drew_grow]; rfl⟩

theorem insertionL_none (a : Option Addr) (c : Nat) (f : Value) (w : World) : Calls Tryd.prog 107 #[.slice a 0 c, .int .i64 0, .int .i64 0, f] w fun e w' => e = .returned (.tuple #[]) ∧ w = w' := by
  go_enter Tryd.func107, Tryd.ntmps107
  go_wp2_with fail
  go_loop [8] (fun i => i = .int .i64 1) (fun i => 0)
  case atStart => rfl
  case round =>
    obtain rfl := hrel
    go_wp2_with fail
    go_end0
    exact ⟨rfl, rfl⟩
theorem pdqL_none (a : Option Addr) (c : Nat) (lim : Int) (f : Value) (w : World) : Calls Tryd.prog 91 #[.slice a 0 c, .int .i64 0, .int .i64 0, .int .i64 lim, f] w fun e w' => e = .returned (.tuple #[]) ∧ w = w' := by
  go_enter Tryd.func91, Tryd.ntmps91
  go_wp2_with fail
  go_loop [1, 2] (fun i j => i = .int .i64 0 ∧ j = .int .i64 0) (fun _ _ => 0)
  case atStart => exact ⟨rfl, rfl⟩
  case round =>
    obtain ⟨rfl, rfl⟩ := hrel
    go_wp2_with fail
    refine (insertionL_none _ _ _ _).mono ?_
    rintro e _ ⟨rfl, rfl⟩
    go_wp2_with fail
    ((try simp only [Exit.inBlock, Exit.then]); refine bodyPost_ret (results_none rfl _ _ _) rfl ?_)
    exact ⟨rfl, rfl⟩
theorem sortL_none (a : Option Addr) (c : Nat) (f : Value) (w : World) : Calls Tryd.prog 72 #[.slice a 0 c, f] w fun e w' => e = .returned (.tuple #[]) ∧ w = w' := by
  go_enter Tryd.func72, Tryd.ntmps72
  go_wp2_with fail
  refine (bitsLenP _).mono ?_
  rintro e _ ⟨⟨k, rfl⟩, rfl⟩
  go_wp2_with fail
  refine (pdqL_none _ _ _ _ _).mono ?_
  rintro e _ ⟨rfl, rfl⟩
  go_wp2_with fail
  go_end0
  exact ⟨rfl, rfl⟩

theorem sortL_calls {w : World} {base g cap : Nat} {L : List (Int × Int)} (hne : L ≠ []) (hl : L.length ≤ 10000) (hO : w.ownsRow base 30 2 (.slice (some ⟨g, 0, none⟩) L.length cap) L.length (pCells L)) :
    Calls Tryd.prog 72 #[.slice (some ⟨g, 0, none⟩) L.length cap, .func (.func 41) #[] #[]] w fun e w' => e = .returned (.tuple #[]) ∧ Keep (fun x => x = g) w w' ∧
      ∀ i x, (sortP L)[i]? = some x → w'.cell? ⟨g, i * 2, none⟩ = some (.int .i64 x.1) ∧ w'.cell? ⟨g, i * 2 + 1, none⟩ = some (.int .i64 x.2) := by
  have hblk : g < w.heap.size := by
    rcases hO.2 with ⟨h1, _⟩ | ⟨g', c', cur, h1, _, hh, _⟩
    · cases h1
    · simp only [Value.slice.injEq, Option.some.injEq, Addr.mk.injEq, true_and, and_true] at h1
      obtain ⟨rfl, _⟩ := h1
      exact (Array.getElem?_eq_some_iff.1 hh).1
  have hH := holdsP_of_own hO
  have hsz : L.toArray.size < 4611686018427387904 := by simp only [List.size_toArray]; omega
  have hcon := AnyQ.slices_SortFunc Tryd.sortL2 2 Tryd.isAgg30 Tryd.sizeOf30 encP (fun _ => rfl) (fun x v hv => by simp [encP] at hv; rcases hv with rfl | rfl <;> rfl) cfP swoP 41 #[] g 0 cap L.toArray w (enters_of Tryd.func41 (by kernel_rfl) rfl) (fun _ _ _ _ x y => cloL_calls x y _) hH hblk hsz
  change Calls Tryd.prog 72 _ _ _ at hcon
  refine hcon.mono ?_
  rintro e w' ⟨rfl, d', n, os, hP, hS, rfl⟩
  obtain ⟨hs, _, hp⟩ := hP
  have e1 : d'.extract 0 L.toArray.size = d' := by rw [← hs]; simp
  have e2 : L.toArray.extract 0 L.toArray.size = L.toArray := by simp
  rw [e1, e2] at hp
  have hsorted : d'.toList = sortP L := sortP_of hS hs hp
  refine ⟨rfl, keepP_sort w g n d' os hblk, fun i x hx => ?_⟩
  rw [← hsorted] at hx
  have hH' := holdsK_sortWorldK_c encP 2 w g 0 L.toArray d' n os hH hblk hs
  have hi : i < d'.size := by
    have := (List.getElem?_eq_some_iff.1 hx).1
    simpa using this
  have hd : d'[i]! = x := by
    have h3 : d'[i]? = some x := by simpa using hx
    rw [getElem!_pos d' i hi]
    exact (Array.getElem?_eq_some_iff.1 h3).2
  have h0 := (hH' (i * 2 + 0) (by rw [size_flatK]; omega)).1
  have h1 := (hH' (i * 2 + 1) (by rw [size_flatK]; omega)).1
  rw [flatP_at d' i 0 hi (by omega), hd, Nat.zero_add, Nat.add_zero] at h0
  rw [flatP_at d' i 1 hi (by omega), hd, Nat.zero_add] at h1
  exact ⟨h0, h1⟩

theorem sortedL_calls {w : World} {mb : Option Nat} {m : List ((Int × Int) × Int)} (h : LimMap w mb m) (hl : m.length ≤ 10000) :
    Calls Tryd.prog 39 #[.func (.func 73) #[] #[.pointer (some ⟨w.heap.size, 0, none⟩)], .func (.func 41) #[] #[]] (w.alloc (.cells #[.map mb] 23)) fun e w' =>
      ∃ v, e = .returned v ∧ RdP w.heap.size w' v (sortP (m.map (·.1))) ∧ Below w.heap.size w w' := by
  have HC := Lib.hid (collectL_calls h hl)
  clear h
  go_enter Tryd.func39, Tryd.ntmps39
  go_wp2_with (go_at_call 71; refine HC.out.mono ?_; rintro e w1 ⟨v, ss, rfl, hperm, hrow, hb⟩)
  have hlen : ss.length = m.length := by simpa using hperm.length_eq
  have hss : sortP ss = sortP (m.map (·.1)) := sortP_perm hperm
  have HH := Lib.hid (And.intro hlen hss)
  have HB := Lib.hid hb
  have hrow2 := hrow.2
  rcases hrow2 with ⟨rfl, hz⟩ | ⟨g, cap, cur, rfl, hbase, hgb, r1, r2, r3, r4⟩
  · obtain rfl : ss = [] := List.eq_nil_of_length_eq_zero hz
    clear hrow hperm hlen hss hz hb
    go_wp2_with (go_at_call 72; refine (sortL_none _ _ _ _).mono ?_; rintro e w2 ⟨rfl, rfl⟩)
    go_ret
    refine ⟨_, rfl, ?_, HB.out⟩
    rw [← HH.out.2]
    exact ⟨none, 0, by simp [sortP_length], by simp [sortP_length], Nat.zero_le _, .inl (by simp [sortP])⟩
  · have hgl : g < w1.heap.size := (Array.getElem?_eq_some_iff.1 hgb).1
    by_cases hne : ss = []
    · subst hne
      clear hrow hperm hlen hss hb hgb r3 r4
      go_wp2_with (go_at_call 72; refine (sortL_none _ _ _ _).mono ?_; rintro e w2 ⟨rfl, rfl⟩)
      go_ret
      refine ⟨_, rfl, ?_, HB.out⟩
      rw [← HH.out.2]
      exact ⟨some ⟨g, 0, none⟩, cap, by simp [sortP_length], by simp [sortP_length], r2, .inl (by simp [sortP])⟩
    have HS := Lib.hid (sortL_calls hne (by omega) hrow)
    clear hrow hperm hlen hss hb hgb r3 r4 hne
    go_wp2_with (go_at_call 72; refine HS.out.mono ?_; rintro e w2 ⟨rfl, hk, hcs⟩)
    go_ret
    refine ⟨_, rfl, ?_, HB.out.trans (hk.below (Nat.le_of_lt (by omega)) (fun k hk e => by omega))⟩
    rw [← HH.out.2]
    exact ⟨some ⟨g, 0, none⟩, cap, by rw [sortP_length]; rfl, by rw [sortP_length]; omega, r2, .inr ⟨g, rfl, by omega, Nat.lt_of_lt_of_le hgl hk.size, hcs⟩⟩

/-- All: the keys, sorted. -/
theorem allL_calls {w : World} {b o : Nat} {mb : Option Nat} {m : List ((Int × Int) × Int)} (hc : w.cell? ⟨b, o, none⟩ = some (.map mb)) (h : LimMap w mb m) (hl : m.length ≤ 10000) :
    Calls Tryd.prog 11 #[.pointer (some ⟨b, o, none⟩)] w fun e w' => ∃ v, e = .returned v ∧ RdP w.heap.size w' v (sortP (m.map (·.1))) ∧ Below w.heap.size w w' := by
  have HS := Lib.hid (sortedL_calls h hl)
  clear h
  go_enter Tryd.func11, Tryd.ntmps11
  go_wp2_with (first
    | (go_at_call 40; refine (keysL_calls _ _).mono ?_; rintro e w1 ⟨rfl, rfl⟩)
    | (go_at_call 39; refine HS.out.mono ?_; rintro e w2 ⟨v, rfl, hR, hb⟩))
  go_ret
  exact ⟨v, rfl, hR, hb⟩
end Go.Proofs.YtkdmedmlbglgmaaDoor
