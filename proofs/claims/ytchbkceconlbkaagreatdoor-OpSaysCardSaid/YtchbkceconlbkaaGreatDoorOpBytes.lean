/- op.Bytes: an operation as bytes. -/
import Derived.Test.YtchbkceconlbkaaGreatDoorOpText
import Derived.Test.YtchbkceconlbkaaGreatDoorWirePut
import Derived.Deep.RegionHeld3
namespace Go.Proofs.YtchbkceconlbkaaGreatDoor
open Go Go.RowKit
set_option linter.unusedSimpArgs false
set_option linter.unusedVariables false

/-- An operation's numbers, as they are laid. -/
def numsO (id k a b c d n m : Int) : List Int := [id, k, a, b, c, d, n, m]
theorem numsO_in {id k a b c d n m : Int} (h : validC id k a b c d n m = 0) : ∀ x ∈ numsO id k a b c d n m, inR x := by
  obtain ⟨h1, h2, h3, h4⟩ := validC_zero h
  have hk : 1 ≤ k ∧ k ≤ 16 := by simpa [isK] using h3
  have h0 := fieldBad_bounds (h4 0 (by decide)); have h1' := fieldBad_bounds (h4 1 (by decide)); have h2' := fieldBad_bounds (h4 2 (by decide)); have h3' := fieldBad_bounds (h4 3 (by decide)); have h4' := fieldBad_bounds (h4 4 (by decide)); have h5' := fieldBad_bounds (h4 5 (by decide))
  simp only [fieldAt] at h0 h1' h2' h3' h4' h5'
  intro x hx
  simp only [numsO, List.mem_cons, List.not_mem_nil, or_false] at hx
  unfold inR
  rcases hx with rfl | rfl | rfl | rfl | rfl | rfl | rfl | rfl <;> omega
theorem rdK_two (w : World) (x y : Int) (E : TypeId) : RdK .i64 (w.alloc (.cells #[.int .i64 x, .int .i64 y] E)) (.slice (some ⟨w.heap.size, 0, none⟩) 2 2) [x, y] := by
  refine .inr ⟨w.heap.size, 0, 2, rfl, Nat.le_refl _, by decide, by simp, fun i hi => ?_⟩
  rw [Nat.zero_add, cell_new]
  match i, hi with
  | 0, _ => rfl
  | 1, _ => rfl
theorem rdK_fields {w : World} {g : Nat} {a b c d n m : Int} (hg : g < w.heap.size) (h : ∀ j, j < 6 → w.cell? ⟨g, j, none⟩ = some (.int .i64 (fieldAt a b c d n m j))) : RdK .i64 w (.slice (some ⟨g, 0, none⟩) 6 6) [a, b, c, d, n, m] := by
  refine .inr ⟨g, 0, 6, rfl, Nat.le_refl _, by decide, hg, fun i hi => ?_⟩
  rw [Nat.zero_add, h i hi]
  match i, hi with
  | 0, _ => rfl
  | 1, _ => rfl
  | 2, _ => rfl
  | 3, _ => rfl
  | 4, _ => rfl
  | 5, _ => rfl

theorem OwnB.mono {base base' : Nat} {w : World} {v : Value} {xs : List Int} (h : OwnB base w v xs) (hb : base' ≤ base) : OwnB base' w v xs := by
  refine ⟨h.1, ?_⟩
  rcases h.2 with h1 | ⟨g, cap, cur, h1, h2, h3⟩
  · exact .inl h1
  · exact .inr ⟨g, cap, cur, h1, Nat.le_trans hb h2, h3⟩
set_option maxHeartbeats 8000000 in
set_option maxRecDepth 100000 in
theorem opBytes_calls {B : Nat} {p : Nat → Addr} {w : World} (hE : Errs (List.range 21) B p w) (hT : OpW B w) (id k a b c d n m : Int) :
    Calls Tryz.prog 6 #[opV id k a b c d n m] w fun e w' => (∃ u, e = .returned (.tuple #[u, valV p (validC id k a b c d n m)]) ∧ (validC id k a b c d n m = 0 → OwnB w.heap.size w' u (bytesI (numsB (numsO id k a b c d n m)))) ∧ (validC id k a b c d n m ≠ 0 → u = .slice none 0 0)) ∧ Below w.heap.size w w' := by
  have HW0 : Below w.heap.size w (w.alloc (Obj.cells #[.int .i64 id, .int .i64 k, .int .i64 a, .int .i64 b, .int .i64 c, .int .i64 d, .int .i64 n, .int .i64 m] 23)) := (Below.refl _ _).alloc (Nat.le_refl _) _
  have HO := Lib.hid (opAt_new w id k a b c d n m 23)
  have HV := Lib.hid (valid_calls (hE.below (HW0.mono hE.size)) (hT.on HW0) id k a b c d n m)
  have HB0 := Lib.hid HW0
  have hsz : w.heap.size < (w.alloc (Obj.cells #[.int .i64 id, .int .i64 k, .int .i64 a, .int .i64 b, .int .i64 c, .int .i64 d, .int .i64 n, .int .i64 m] 23)).heap.size := by simp
  have hc0 := HO.out.c0; have hc1 := HO.out.c1; have hc2 := HO.out.c2; have hc3 := HO.out.c3; have hc4 := HO.out.c4; have hc5 := HO.out.c5; have hc6 := HO.out.c6; have hc7 := HO.out.c7
  clear hE hT HW0
  by_cases hv : validC id k a b c d n m = 0
  · have HN := Lib.hid (numsO_in hv)
    rw [hv]
    rw [hv, show valV p 0 = .nilIface from rfl] at HV
    rw [show valV p 0 = .nilIface from rfl]
    clear hv
    go_enter Tryz.func6, Tryz.ntmps6
    go_wp2_with fail
    generalize w.alloc (Obj.cells #[.int .i64 id, .int .i64 k, .int .i64 a, .int .i64 b, .int .i64 c, .int .i64 d, .int .i64 n, .int .i64 m] 23) = W1 at *
    refine HV.out.mono ?_
    rintro e w2 ⟨rfl, hb⟩
    have HO := Lib.hid (HO.out.below hb)
    have HB := Lib.hid (bbase HB0.out hb)
    have hsz2 : w.heap.size < w2.heap.size := by have := hb.size; omega
    clear hb hsz HV HB0 hc0 hc1 hc2 hc3 hc4 hc5 hc6 hc7
    have hc0 := HO.out.c0; have hc1 := HO.out.c1; have hc2 := HO.out.c2; have hc3 := HO.out.c3; have hc4 := HO.out.c4; have hc5 := HO.out.c5; have hc6 := HO.out.c6; have hc7 := HO.out.c7
    have hN1 : ∀ x ∈ [id, k], inR x := fun x hx => HN.out x (by simp only [numsO, List.mem_cons, List.not_mem_nil, or_false] at hx ⊢; rcases hx with rfl | rfl <;> simp)
    have hN2 : ∀ x ∈ [a, b, c, d, n, m], inR x := fun x hx => HN.out x (by simp only [numsO, List.mem_cons, List.not_mem_nil, or_false] at hx ⊢; rcases hx with rfl | rfl | rfl | rfl | rfl | rfl <;> simp)
    have HN1 := Lib.hid hN1
    have HN2 := Lib.hid hN2
    clear hN1 hN2 HN
    have hal : Below w2.heap.size w2 (w2.drew.alloc (.cells #[.int .i64 id, .int .i64 k] 2)) := (Below.refl _ _).drew.alloc (Nat.le_refl _) _
    have HP1 := Lib.hid (wirePut_calls (w := w2.drew.alloc (.cells #[.int .i64 id, .int .i64 k] 2)) (v := .slice none 0 0) (xs := []) (.inl ⟨rfl, rfl⟩) (rdK_two w2.drew id k 2) HN1.out (by show 0 ≤ 1000; decide) (by show 2 ≤ 1000; decide))
    have HOal := Lib.hid (HO.out.below hal)
    have HBal := Lib.hid (bbase HB.out hal)
    have hsal : w.heap.size < (w2.drew.alloc (.cells #[.int .i64 id, .int .i64 k] 2)).heap.size := by have := hal.size; omega
    go_wp2_with fail
    go_region_held3 (fun w1 => w1.cell? ⟨w.heap.size, 0, none⟩ = some (.int .i64 id) ∧ w1.cell? ⟨w.heap.size, 1, none⟩ = some (.int .i64 k) ∧ w1.cell? ⟨w.heap.size, 2, none⟩ = some (.int .i64 a) ∧ w1.cell? ⟨w.heap.size, 3, none⟩ = some (.int .i64 b) ∧ w1.cell? ⟨w.heap.size, 4, none⟩ = some (.int .i64 c) ∧ w1.cell? ⟨w.heap.size, 5, none⟩ = some (.int .i64 d) ∧ w1.cell? ⟨w.heap.size, 6, none⟩ = some (.int .i64 n) ∧ w1.cell? ⟨w.heap.size, 7, none⟩ = some (.int .i64 m))
      ((repeat' apply And.intro) <;> first | exact hc0 | exact hc1 | exact hc2 | exact hc3 | exact hc4 | exact hc5 | exact hc6 | exact hc7 | exact HOal.out.c0 | exact HOal.out.c1 | exact HOal.out.c2 | exact HOal.out.c3 | exact HOal.out.c4 | exact HOal.out.c5 | exact HOal.out.c6 | exact HOal.out.c7 | exact HO5.out.c0 | exact HO5.out.c1 | exact HO5.out.c2 | exact HO5.out.c3 | exact HO5.out.c4 | exact HO5.out.c5 | exact HO5.out.c6 | exact HO5.out.c7 | exact HO6.out.c0 | exact HO6.out.c1 | exact HO6.out.c2 | exact HO6.out.c3 | exact HO6.out.c4 | exact HO6.out.c5 | exact HO6.out.c6 | exact HO6.out.c7 | exact HO7.out.c0 | exact HO7.out.c1 | exact HO7.out.c2 | exact HO7.out.c3 | exact HO7.out.c4 | exact HO7.out.c5 | exact HO7.out.c6 | exact HO7.out.c7)
      (first
        | (go_at_call_of 24 (Value.slice none 0 0); go_loud (refine HP1.out.mono ?_); go_loud (rintro e w5 ⟨u5, rfl, ho5, hb5⟩; have HO5 := Lib.hid (HOal.out.below hb5); have HB5 := Lib.hid (bbase HBal.out hb5); have HR5 := Lib.hid ho5.rd; have hs5 := hb5.size; clear ho5 hb5))
        | (go_at_call 25; go_loud (refine (fields_calls id k a b c d n m w5).mono ?_); go_loud (rintro e w6 ⟨g6, rfl, hg1, hg2, hb6, hcl⟩; have HO6 := Lib.hid (HO5.out.below hb6); have HB6 := Lib.hid (bbase HB5.out hb6); have HR6 := Lib.hid (HR5.out.below hb6); have HF6 := Lib.hid (rdK_fields hg2 hcl); have hs6 := hb6.size; clear hcl hb6))
        | (go_at_call 24; go_loud (refine (wirePut_calls HR6.out HF6.out HN2.out (by have h := numsB_len [id, k] HN1.out; simp [bytesI] at h ⊢; omega) (by show 6 ≤ 1000; decide)).mono ?_); go_loud (rintro e w7 ⟨u7, rfl, ho7, hb7⟩; have HO7 := Lib.hid (HO6.out.below hb7); have HB7 := Lib.hid (bbase HB6.out hb7); have HR7 := Lib.hid ho7; clear ho7 hb7)))
    have hfin : OwnB w.heap.size w7 u7 (bytesI (numsB (numsO id k a b c d n m))) := by
      have h := (HR7.out).mono (show w.heap.size ≤ w6.heap.size by have := HB6.out.size; omega)
      have e : ([] ++ bytesI (numsB [id, k])) ++ bytesI (numsB [a, b, c, d, n, m]) = bytesI (numsB (numsO id k a b c d n m)) := by
        rw [List.nil_append, ← bytesI_append, ← numsB_append]
        rfl
      rw [e] at h
      exact h
    have HFin := Lib.hid hfin
    clear hfin
    go_wp2_with fail
    refine bodyPost_ret (v := .tuple #[u7, .nilIface]) (by simp [results, Tryz.results6, go_sem]) rfl ⟨⟨_, rfl, fun _ => HFin.out, fun h => absurd rfl h⟩, HB7.out⟩
  · obtain ⟨ad, had⟩ := valV_ne (p := p) hv
    rw [had] at HV ⊢
    have HN := Lib.hid hv
    clear hv had
    go_enter Tryz.func6, Tryz.ntmps6
    go_wp2_with fail
    generalize w.alloc (Obj.cells #[.int .i64 id, .int .i64 k, .int .i64 a, .int .i64 b, .int .i64 c, .int .i64 d, .int .i64 n, .int .i64 m] 23) = W1 at *
    refine HV.out.mono ?_
    rintro e w2 ⟨rfl, hb⟩
    have HB := Lib.hid (bbase HB0.out hb)
    go_wp2_with fail
    refine bodyPost_ret (v := .tuple #[.slice none 0 0, .iface 146 (.pointer (some ad))]) (by simp [results, Tryz.results6, go_sem]) rfl ⟨⟨_, rfl, fun h => absurd h HN.out, fun _ => rfl⟩, HB.out⟩
end Go.Proofs.YtchbkceconlbkaaGreatDoor
