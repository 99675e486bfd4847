/- The walk of pledgelaw16.CapsFree: it returns true, and writes nothing that was there. -/
import Derived.Test.YtkdmedmlbglgmaaDoorCapsR
import Derived.Test.YtkdmedmlbglgmaaDoorFreeLaw
namespace Go.Proofs.YtkdmedmlbglgmaaDoor
open Go.Maps
open Go Go.RowKit
set_option linter.unusedSimpArgs false
set_option linter.unusedVariables false

/-- A line that the walk has made. -/
structure LnAt (w : World) (g : Nat) (i v : Int) : Prop where
  c0 : w.cell? ⟨g, 0, none⟩ = some (.int .i64 2)
  c1 : w.cell? ⟨g, 1, none⟩ = some (.int .i64 2)
  c2 : w.cell? ⟨g, 2, none⟩ = some (.int .i64 i)
  c3 : w.cell? ⟨g, 3, none⟩ = some (.int .i64 v)
theorem LnAt.keep {S : Nat → Prop} {w w' : World} {g : Nat} {i v : Int} (h : LnAt w g i v) (k : Keep S w w') (hs : ¬ S g) : LnAt w' g i v := by
  have hlt : g < w.heap.size := World.block_lt_of_cell? w ⟨g, 0, none⟩ h.c0
  exact ⟨(k.cell (x := ⟨g, 0, none⟩) hlt hs).trans h.c0, (k.cell (x := ⟨g, 1, none⟩) hlt hs).trans h.c1, (k.cell (x := ⟨g, 2, none⟩) hlt hs).trans h.c2, (k.cell (x := ⟨g, 3, none⟩) hlt hs).trans h.c3⟩
theorem LnAt.below {w w' : World} {g : Nat} {i v : Int} (h : LnAt w g i v) (k : Below w.heap.size w w') : LnAt w' g i v := h.keep (S := fun _ => False) (Keep.of_below k) (fun h => h)
theorem lnAt_new (w : World) (i v : Int) (E : TypeId) : LnAt (w.alloc (.cells #[.int .i64 2, .int .i64 2, .int .i64 i, .int .i64 v] E)) w.heap.size i v := ⟨by go_simp, by go_simp, by go_simp, by go_simp⟩
theorem ln_fits (i v : Int) (hi : 0 ≤ i ∧ i ≤ 32) (hv : 0 ≤ v ∧ v < 1000000) : ∀ x ∈ [(((2, 2, i) : G), v)], fitsL x = true := by
  intro x hx
  obtain rfl := List.mem_singleton.1 hx
  exact decide_eq_true (by simp only; omega)

set_option maxHeartbeats 4000000 in
set_option maxRecDepth 100000 in
theorem walk_CapsFree {p : Nat → Addr} {w : World} (hE : Errs [2, 3] w.heap.size p w) (v limit : Int) (l0 : -9223372036854775808 ≤ v) (u0 : v ≤ 9223372036854775807) (l1 : -9223372036854775808 ≤ limit) (u1 : limit ≤ 9223372036854775807) :
    Calls Tryd.prog 3 #[.int .i64 v, .int .i64 limit] w fun e w' => e = .returned (.bool true) ∧ Below w.heap.size w w' := by
  have HE := Lib.hid hE; clear hE
  by_cases hv0 : v < 0
  all_goals
    go_enter Tryd.func3, Tryd.ntmps3
    go_wp2_with fail
    refine (first16_calls HE.out (by decide) (by decide)).mono ?_
    rintro e w1 ⟨rfl, hb1⟩
    have hs1 := hb1.size
    go_wp2_with fail
    first
      | (have e : -(v + 1).tmod 1000000 = (-(v + 1)) % 1000000 := by rw [← Int.neg_tmod]; exact Int.tmod_eq_emod_of_nonneg (by omega)
         rw [e]
         clear e
         have hb0 := Int.emod_nonneg (-(v + 1)) (show (1000000 : Int) ≠ 0 by decide)
         have hb1' := Int.emod_lt_of_pos (-(v + 1)) (show (0 : Int) < 1000000 by decide)
         generalize (-(v + 1)) % 1000000 = x at *)
      | (have hb0 := Int.emod_nonneg v (show (1000000 : Int) ≠ 0 by decide)
         have hb1' := Int.emod_lt_of_pos v (show (0 : Int) < 1000000 by decide)
         generalize v % 1000000 = x at *)
    have hx : 0 ≤ x ∧ x < 1000000 := ⟨hb0, hb1'⟩
    have HF := Lib.hid (And.intro (free_none 3 x hx) (And.intro (free_none 0 x hx) (And.intro (fun y (hy : 0 < y) => free_one y x hy hx) (fun y (hy : 0 < y) => free_two y x hy hx))))
    clear hb0 hb1' hv0 l0 u0 l1 u1
    have hL0 := capsR_new w1
    have HB2 : Below w.heap.size w (w1.alloc (Obj.cells #[Value.map none] 25)) := by (repeat (first | exact Below.refl _ _ | assumption | refine Below.drew ?_ | refine below_many ?_ _ | refine Below.alloc ?_ (by first | (simp; done) | (simp; omega) | omega) _ | refine Below.setCell ?_ (by first | (simp; done) | (simp; omega) | omega) _))
    generalize hw2 : w1.alloc (Obj.cells #[Value.map none] 25) = w2 at *
    have hlb : w1.heap.size < w2.heap.size := by rw [← hw2]; simp
    clear hw2 hb1
    generalize w1.heap.size = lb at *
    refine (capsR_set (HE.out.below HB2) (by decide) hL0 3 3 limit).mono ?_
    rintro e w3 ⟨rfl, r3, hL3, hr3, hk3⟩
    have HB3 := HB2.trans (hk3.below HB2.size (fun j hj h => h.elim (fun h => by omega) (fun h => by cases h)))
    have hs3 := hk3.size
    have hR3 : ∀ y, r3 = some y → w2.heap.size ≤ y := fun y hy => by
      rcases hr3 with rfl | ⟨nb, rfl, hnb⟩
      · cases hy
      · cases hy; exact hnb
    rw [free_set] at hL3
    have hoff := free_off limit
    clear hL0 HB2 hr3 hk3
    obtain ⟨m1, n, ok, pos, hm1, hokq, hposq, hS1, hS2, hwant⟩ : ∃ (m1 : Lims) (n : Int) (ok pos : Bool), (if limOK 3 3 limit = true ∧ 0 < limit then [((3, 3), limit)] else []) = m1 ∧ limOK 3 3 limit = ok ∧ decide (0 < limit) = pos ∧ capR m1 [((2, 2, 3), x)] = .ok n ∧ capR m1 [((2, 2, 0), x)] = .ok x ∧ ((ok = true ∧ pos = true ∧ n = min x limit) ∨ (ok = true ∧ pos = false ∧ n = x) ∨ (ok = false ∧ n = x)) := by
      by_cases h : limOK 3 3 limit = true ∧ 0 < limit
      · exact ⟨_, min x limit, true, true, rfl, h.1, decide_eq_true h.2, by rw [if_pos h]; exact HF.out.2.2.1 limit h.2, by rw [if_pos h]; exact HF.out.2.2.2 limit h.2, .inl ⟨rfl, rfl, rfl⟩⟩
      · cases hk : limOK 3 3 limit with
        | false => exact ⟨_, x, false, _, rfl, rfl, rfl, by rw [if_neg (by simp)]; exact HF.out.1, by rw [if_neg (by simp)]; exact HF.out.2.1, .inr (.inr ⟨rfl, rfl⟩)⟩
        | true =>
          have hn : ¬ 0 < limit := fun h' => h ⟨hk, h'⟩
          exact ⟨_, x, true, false, rfl, rfl, decide_eq_false hn, by rw [if_neg (fun h' => hn h'.2)]; exact HF.out.1, by rw [if_neg (fun h' => hn h'.2)]; exact HF.out.2.1, .inr (.inl ⟨rfl, rfl, rfl⟩)⟩
    rw [hm1] at hL3 hoff
    rw [hokq]
    clear hm1 hokq
    have HL3 := Lib.hid hL3
    have HR3 := Lib.hid hR3
    have HOff := Lib.hid hoff
    have HS := Lib.hid (And.intro hS1 (And.intro hS2 HF.out.1))
    have HP := Lib.hid hposq
    clear hL3 hR3 hoff hS1 hS2 HF hposq
    rcases hwant with ⟨rfl, rfl, hn⟩ | ⟨rfl, rfl, hn⟩ | ⟨rfl, hn⟩
    all_goals
      have HN := Lib.hid hn
      have hP := HP.out
      clear hn
      unfold okV
      simp only [if_true, Bool.false_eq_true, if_false]
      try unfold ev errV
      go_wp2_with fail
      refine (capsR_set (HE.out.below HB3) (by decide) HL3.out 3 0 limit).mono ?_
      rintro e w4 ⟨rfl, r4, hL4, hr4, hk4⟩
      rw [free_zero] at hL4
      rw [show limOK 3 0 limit = false from decide_eq_false (by omega)]
      unfold okV
      simp only [Bool.false_eq_true, if_false]
      unfold ev errV
      have HB4 : Below w.heap.size w w4 := HB3.trans (hk4.below HB3.size (fun j hj h => h.elim (fun h => by omega) (fun h => by have := HR3.out _ h; omega)))
      have hs4 := hk4.size
      have hR4 : ∀ y, r4 = some y → w2.heap.size ≤ y ∧ y < w4.heap.size := fun y hy => by
        refine ⟨?_, hL4.map.lt y hy⟩
        rcases hr4 with rfl | ⟨nb, rfl, hnb⟩
        · exact HR3.out y hy
        · cases hy; omega
      have HL4 := Lib.hid hL4
      have HR4 := Lib.hid hR4
      clear hL4 hR4 hr4 hk4 HL3 HR3
      go_wp2_with fail
      obtain ⟨w5, hw5⟩ : ∃ w5, w5 = (w4.alloc (Obj.cells #[.int .i64 2, .int .i64 2, .int .i64 3, .int .i64 x] 32)).alloc (Obj.cells #[.int .i64 2, .int .i64 2, .int .i64 0, .int .i64 x] 32) := ⟨_, rfl⟩
      have hA5 : LnAt w5 w4.heap.size 3 x := by rw [hw5]; exact (lnAt_new w4 3 x _).below ((Below.refl _ _).alloc (Nat.le_refl _) _)
      have hB5 : LnAt w5 (w4.heap.size + 1) 0 x := by
        rw [hw5]
        have := lnAt_new (w4.alloc (Obj.cells #[.int .i64 2, .int .i64 2, .int .i64 3, .int .i64 x] 32)) 0 x 32
        rwa [World.size_alloc] at this
      have hs5 : w5.heap.size = w4.heap.size + 1 + 1 := by rw [hw5]; simp
      have HL5 := Lib.hid (HL4.out.below (show Below w4.heap.size w4 w5 by rw [hw5]; (repeat (first | exact Below.refl _ _ | assumption | refine Below.drew ?_ | refine below_many ?_ _ | refine Below.alloc ?_ (by first | (simp; done) | (simp; omega) | omega) _ | refine Below.setCell ?_ (by first | (simp; done) | (simp; omega) | omega) _))))
      have HB5 : Below w.heap.size w w5 := by rw [hw5]; have := HB4.size; (repeat (first | exact Below.refl _ _ | assumption | refine Below.drew ?_ | refine below_many ?_ _ | refine Below.alloc ?_ (by first | (simp; done) | (simp; omega) | omega) _ | refine Below.setCell ?_ (by first | (simp; done) | (simp; omega) | omega) _))
      rw [← hw5, ← hs5]
      clear hw5 HL4 HB4 HB3
      refine (sum_calls (HE.out.below (HB5.alloc HB5.size _)) (by decide) (HL5.out.below ((Below.refl _ _).alloc (Nat.le_refl _) _)).at (LinesAt.row w5 [((2, 2, 3), x)] _ _ 1 (by rfl) (by rfl) (by decide)) (ln_fits 3 x (by decide) hx)).mono ?_
      rintro e w6 ⟨rfl, hb6⟩
      rw [HS.out.1]
      simp only [resV]
      have hb6' : Below w5.heap.size w5 w6 := ((Below.refl _ _).alloc (Nat.le_refl _) _).trans (hb6.mono (by simp))
      have hA6 := hA5.below hb6'
      have hB6 := hB5.below hb6'
      have HL6 := Lib.hid (HL5.out.below hb6')
      have HB6 := bbase HB5 hb6'
      have hs6 := hb6'.size
      obtain ⟨d0, d1, d2, d3⟩ := id hB6
      have HA6 := Lib.hid hA6
      clear hb6 hb6' hA5 hB5 HL5 HB5 hA6 hB6
      go_wp2_with fail
      refine (sum_calls (HE.out.below (HB6.alloc HB6.size _)) (by decide) (HL6.out.below ((Below.refl _ _).alloc (Nat.le_refl _) _)).at (LinesAt.row w6 [((2, 2, 0), x)] _ _ 1 (by rfl) (by rfl) (by decide)) (ln_fits 0 x (by decide) hx)).mono ?_
      rintro e w7 ⟨rfl, hb7⟩
      rw [HS.out.2.1]
      simp only [resV]
      have hb7' : Below w6.heap.size w6 w7 := ((Below.refl _ _).alloc (Nat.le_refl _) _).trans (hb7.mono (by simp))
      have HA7 := Lib.hid (HA6.out.below hb7')
      have HL7 := Lib.hid (HL6.out.below hb7')
      have HB7 := bbase HB6 hb7'
      have hs7 := hb7'.size
      clear hb7 hb7' HA6 HL6 HB6 d0 d1 d2 d3
      go_wp2_with fail
      refine (capsR_set (HE.out.below HB7) (by decide) HL7.out 3 3 0).mono ?_
      rintro e w8 ⟨rfl, r8, hL8, hr8, hk8⟩
      rw [HOff.out] at hL8
      rw [show limOK 3 3 0 = true from by decide]
      unfold okV
      simp only [if_true]
      have hA8 := HA7.out.keep hk8 (fun h => h.elim (fun h => by omega) (fun h => by have := (HR4.out _ h).2; omega))
      have HB8 := HB7.trans (hk8.below HB7.size (fun j hj h => h.elim (fun h => by omega) (fun h => by have := (HR4.out _ h).1; omega)))
      have hs8 := hk8.size
      have HL8 := Lib.hid hL8
      obtain ⟨d0, d1, d2, d3⟩ := id hA8
      clear hL8 hr8 hk8 HA7 HL7 HB7 hA8
      go_wp2_with fail
      refine (sum_calls (HE.out.below (HB8.alloc HB8.size _)) (by decide) (HL8.out.below ((Below.refl _ _).alloc (Nat.le_refl _) _)).at (LinesAt.row w8 [((2, 2, 3), x)] _ _ 1 (by rfl) (by rfl) (by decide)) (ln_fits 3 x (by decide) hx)).mono ?_
      rintro e w9 ⟨rfl, hb9⟩
      rw [HS.out.2.2]
      simp only [resV]
      have hb9' : Below w8.heap.size w8 w9 := ((Below.refl _ _).alloc (Nat.le_refl _) _).trans (hb9.mono (by simp))
      have HL9 := Lib.hid (HL8.out.below hb9')
      have HB9 := Lib.hid (bbase HB8 hb9')
      clear hb9 hb9' HL8 HB8 d0 d1 d2 d3
      clear hP HS HOff hs5 hs6 hs7 hs8
      go_wp2_with fail
      all_goals
        first
          | (refine (allL_calls HL9.out.cmap HL9.out.map (by simp)).mono ?_
             rintro e w10 ⟨v10, rfl, ⟨ad, cp, rfl, hlc, hcm, _⟩, hb10⟩
             rw [show (sortP (([] : Lims).map (·.1))).length = 0 by simp [sortP_length]]
             go_wp2_with fail
             go_ret
             exact ⟨rfl, bbase HB9.out hb10⟩)
          | (exfalso
             have h1 := HN.out
             have h2 := HP.out
             simp only [decide_eq_true_eq, decide_eq_false_iff_not] at h2
             omega)
end Go.Proofs.YtkdmedmlbglgmaaDoor
