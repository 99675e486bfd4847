/- (*disk.Disk).Read: what a sector has. -/
import Derived.Test.YtehacchacgfjlaaDoorDisk4
namespace Go.Proofs.YtehacchacgfjlaaDoor
open Go.Maps
open Go Go.RowKit
set_option linter.unusedSimpArgs false
set_option linter.unusedVariables false

theorem OwnB.base {b b' : Nat} {w : World} {v : Value} {bs : List Int} (h : OwnB b w v bs) (hb : b' ≤ b) : OwnB b' w v bs := by
  refine ⟨h.1, ?_⟩
  rcases h.2 with h1 | ⟨g, cap, cur, h1, h2, h3⟩
  · exact .inl h1
  · exact .inr ⟨g, cap, cur, h1, Nat.le_trans hb h2, h3⟩
/-- What a sector has now: what is pending, or what was kept. -/
def secNow (F P : SecL) (i : Int) : List Int := ((mget P i).map (·.2)).getD (secOf F i)
section
variable {lo : Nat} {w w' : World} {d : Nat} {n : Int} {fb pb : Nat} {F P : SecL} {calls fuse : Int} {down : Bool}
set_option maxRecDepth 100000 in
theorem read_ok (h : Dsk lo w d n fb pb F P calls fuse false) (i : Int) (h0 : 0 ≤ i) (hn : i < n) (hn2 : n ≤ 8192) :
    Calls Tryd.prog 25 #[.pointer (some ⟨d, 0, none⟩), .int .i64 i] w fun e w' => ∃ v, e = .returned (.tuple #[v, .nilIface]) ∧ OwnB w.heap.size w' v (secNow F P i) ∧ (secNow F P i).length = 128 ∧ Below w.heap.size w w' := by
  have hi : (Lit.int .i64 i).wf = true := i64wf (by omega) (by omega)
  have hl := sec_look h.pe i hi
  have c0 := h.c0
  have c2 := h.c2
  have c5 := h.c5
  have HD := Lib.hid h
  have HI := Lib.hid hi
  cases hg : mget P i with
  | some x =>
    obtain ⟨v, bs⟩ := x
    obtain ⟨hr, hlen⟩ := h.pe.rd _ (mget_mem hg)
    simp only at hr hlen
    rw [hg] at hl
    simp only [Option.map_some, Option.getD_some, secV] at hl
    have HS : Hid (secNow F P i = bs) := by unfold Hid secNow; rw [hg]; rfl
    have HL := Lib.hid hlen
    rcases hr with ⟨_, hb0⟩ | ⟨g, off, cap, rfl, h1, h2, h3, h4⟩
    · rw [hb0] at hlen; cases hlen
    · rw [hlen] at hl h1
      have HR : Hid (RdB w (.slice (some ⟨g, off, none⟩) 128 cap) bs) := .inr ⟨g, off, cap, by rw [hlen], by rw [hlen]; exact h1, h2, h3, h4⟩
      clear h hg hlen h4 hi
      go_enter Tryd.func25, Tryd.ntmps25
      go_wp2_with fail
      refine (cloneB_calls HR.out (by rw [HL.out]; decide)).mono ?_
      rintro e w1 ⟨v1, rfl, hO, hb⟩
      have HO := Lib.hid hO
      have HB := Lib.hid hb
      clear hO hb
      go_wp2_with fail
      go_ret2
      rw [HS.out]
      exact ⟨_, rfl, HO.out, HL.out, HB.out⟩
  | none =>
    rw [hg] at hl
    simp only [Option.map_none, Option.getD_none] at hl
    have HS : Hid (secNow F P i = secOf F i) := by unfold Hid secNow; rw [hg]; rfl
    clear h hg hi
    go_enter Tryd.func25, Tryd.ntmps25
    go_wp2_with fail
    refine (kept_calls HD.out i HI.out).mono ?_
    rintro e w1 ⟨v1, rfl, hR1, hlen, hb1⟩
    have HR1 := Lib.hid hR1
    have HL := Lib.hid hlen
    have HB1 := Lib.hid hb1
    obtain ⟨ad1, cp1, hv1, _, _⟩ := hR1.len
    subst hv1
    clear hR1 hlen hb1
    go_wp2_with fail
    refine (cloneB_calls HR1.out (by rw [HL.out]; decide)).mono ?_
    rintro e w2 ⟨v2, rfl, hO, hb⟩
    have HO : Hid (OwnB w.heap.size w2 v2 (secOf F i)) := hO.base HB1.out.size
    have HB : Hid (Below w.heap.size w w2) := HB1.out.trans (hb.mono HB1.out.size)
    clear hO hb
    go_wp2_with fail
    go_ret2
    rw [HS.out]
    exact ⟨_, rfl, HO.out, HL.out, HB.out⟩
end
end Go.Proofs.YtehacchacgfjlaaDoor
