/- A ladder in memory, as a whole: its map and its one number; what its methods do to it. -/
import Derived.Test.YtehacchacgfjlaaDoorCut
import Derived.Test.YtehacchacgfjlaaDoorNum
namespace Go.Proofs.YtehacchacgfjlaaDoor
open Go Go.RowKit
set_option linter.unusedSimpArgs false
set_option linter.unusedVariables false

/-- A ladder at block b from cell o on: its cuts m, its number fx; its map's block lies from B on. -/
structure Lad (B : Nat) (w : World) (b o : Nat) (m : List ((Int × Int) × Int)) (fx : Int) : Prop where
  map : ∃ r, w.cell? ⟨b, o, none⟩ = some (.map r) ∧ StepMap w r m ∧ ∀ x, r = some x → B ≤ x
  cfx : w.cell? ⟨b, o + 1, none⟩ = some (.int .i64 fx)
  free : w.frozen? ⟨b, o, none⟩ = false
  free' : w.frozen? ⟨b, o + 1, none⟩ = false
  fxb : 0 ≤ fx ∧ fx ≤ 10000
  bd : ∀ x ∈ m, 0 ≤ x.2 ∧ x.2 ≤ 10000

theorem Lad.lt {B : Nat} {w : World} {b o : Nat} {m : List ((Int × Int) × Int)} {fx : Int} (h : Lad B w b o m fx) : b < w.heap.size := by
  obtain ⟨r, hc, _⟩ := h.map
  exact World.block_lt_of_cell? w ⟨b, o, none⟩ hc
theorem Lad.below {B : Nat} {w w' : World} {b o : Nat} {m : List ((Int × Int) × Int)} {fx : Int} (h : Lad B w b o m fx) (k : Below w.heap.size w w') : Lad B w' b o m fx := by
  have hlt := h.lt
  obtain ⟨⟨r, hc, hm, hr⟩, h2, h3, h4, h5, h6⟩ := h
  exact ⟨⟨r, (k.cell (p := ⟨b, o, none⟩) hlt).trans hc, hm.below k, hr⟩, (k.cell (p := ⟨b, o + 1, none⟩) hlt).trans h2, (k.frozen (p := ⟨b, o, none⟩) hlt).trans h3, (k.frozen (p := ⟨b, o + 1, none⟩) hlt).trans h4, h5, h6⟩

theorem lad_set {B : Nat} {w : World} {b o : Nat} {m : List ((Int × Int) × Int)} {fx : Int} (h : Lad B w b o m fx) (hB : B ≤ w.heap.size) (cls bk bp : Int) (hv : stepOK cls bk bp = true) :
    Calls Tryd.prog 40 #[.pointer (some ⟨b, o, none⟩), pairV (cls, bk), .int .i64 bp] w fun e w' => e = .returned .nilIface ∧ Lad B w' b o (mput m (cls, bk) bp) fx ∧ Keep (fun x => x = b ∨ B ≤ x) w w' := by
  obtain ⟨⟨r, hc, hm, hr⟩, h2, h3, h4, h5, h6⟩ := h
  refine (cutSet_ok hc h3 hm cls bk bp hv).mono ?_
  rintro e w' ⟨rfl, r', hm', hf⟩
  refine ⟨rfl, ⟨⟨r', hf.cell, hm', fun x hx => ?_⟩, (hf.others (o + 1) (by omega)).trans h2, (hf.froz o).trans h3, (hf.froz (o + 1)).trans h4, h5, fun x hx => ?_⟩, hf.keep.mono fun k _ hk => ?_⟩
  · rcases hf.now with rfl | ⟨nb, rfl, hnb⟩
    · exact hr x hx
    · cases hx; omega
  · rcases mem_mput hx with rfl | hx
    · simp only [stepOK, decide_eq_true_eq] at hv
      simp only; omega
    · exact h6 x hx
  · rcases hk with rfl | hk
    · exact .inl rfl
    · exact .inr (hr k hk)

theorem lad_fx {B : Nat} {w : World} {b o : Nat} {m : List ((Int × Int) × Int)} {fx : Int} (h : Lad B w b o m fx) (bp : Int) (hv : isBp bp = true) :
    Calls Tryd.prog 46 #[.pointer (some ⟨b, o, none⟩), .int .i64 bp] w fun e w' => e = .returned .nilIface ∧ Lad B w' b o m bp ∧ Keep (fun x => x = b) w w' := by
  obtain ⟨⟨r, hc, hm, hr⟩, h2, h3, h4, h5, h6⟩ := h
  refine (setFx_ok h2 h4 bp hv).mono ?_
  rintro e w' ⟨rfl, rfl⟩
  refine ⟨rfl, ⟨⟨r, ?_, hm.setCell h2, hr⟩, ?_, by rw [frozen_setCell]; exact h3, by rw [frozen_setCell]; exact h4, by simpa [isBp] using hv, h6⟩, keep_setCell w ⟨b, o + 1, none⟩ _⟩
  · rw [cell_setCell_other (by omega)]; exact hc
  · exact World.cell?_setCell_same' w _ _ (by rw [h2]; rfl)

theorem lad_of {ks : List Nat} {C : Nat} {p : Nat → Addr} {w : World} (hE : Errs ks C p w) (hk : 2 ∈ ks) {B : Nat} {b o : Nat} {m : List ((Int × Int) × Int)} {fx : Int} (h : Lad B w b o m fx) (id iss cls mon en td : Int) :
    Calls Tryd.prog 44 #[.pointer (some ⟨b, o, none⟩), assetV id iss cls mon en, .int .i64 td] w fun e w' => e = .returned (.int .i64 (ofN m fx id iss cls mon en td)) ∧ Below w.heap.size w w' := by
  obtain ⟨⟨r, hc, hm, hr⟩, h2, h3, h4, h5, h6⟩ := h
  exact cutOf_calls hE hk hc h2 hm h5 h6 id iss cls mon en td

theorem lad_get {B : Nat} {w : World} {b o : Nat} {m : List ((Int × Int) × Int)} {fx : Int} (h : Lad B w b o m fx) (cls bk : Int) (h1 : (Lit.int .i64 cls).wf = true) (h2 : (Lit.int .i64 bk).wf = true) :
    Calls Tryd.prog 41 #[.pointer (some ⟨b, o, none⟩), pairV (cls, bk)] w fun e w' => e = .returned (.int .i64 ((mget m (cls, bk)).getD 0)) ∧ Below w.heap.size w w' := by
  obtain ⟨⟨r, hc, hm, hr⟩, _⟩ := h
  exact cutGet_calls hc hm cls bk h1 h2

/-- A new ladder, where the walk has made one. -/
theorem lad_new (B : Nat) (w : World) : Lad B (w.alloc (Obj.cells #[.map none, .int .i64 0] 64)) w.heap.size 0 [] 0 :=
  ⟨⟨none, by go_simp, .inl ⟨rfl, rfl⟩, fun x hx => by cases hx⟩, by go_simp, by go_simp, by go_simp, by omega, by simp⟩

end Go.Proofs.YtehacchacgfjlaaDoor
