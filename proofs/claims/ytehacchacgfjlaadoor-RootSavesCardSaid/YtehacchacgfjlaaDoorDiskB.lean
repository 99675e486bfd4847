/- Write and Flush where the power is gone. -/
import Derived.Test.YtehacchacgfjlaaDoorDiskA
namespace Go.Proofs.YtehacchacgfjlaaDoor
open Go.Maps
open Go Go.RowKit
set_option linter.unusedSimpArgs false
set_option linter.unusedVariables false

section
variable {lo : Nat} {w w' : World} {d : Nat} {n : Int} {fb pb : Nat} {F P : SecL} {calls fuse : Int} {down : Bool}
set_option maxRecDepth 100000 in
theorem write_gone {ks : List Nat} {B : Nat} {p : Nat → Addr} (hE : Errs ks B p w) (h8 : 8 ∈ ks) (h : Dsk lo w d n fb pb F P calls fuse down) (hB : B ≤ d) (hf : fuse ≤ 4611686018427387904) (hg : goneD fuse down = true) (i v : Value) :
    Calls Tryd.prog 18 #[.pointer (some ⟨d, 0, none⟩), i, v] w fun e w' => e = .returned (ev p 8) ∧ Dsk lo w' d n fb pb F P calls (goneF fuse down) true ∧ Keep (fun x => x = d) w w' := by
  have hg8 := (hE.lt 8 h8).1
  have c8 := hE.cell 8 h8
  simp only [gl] at c8 hg8
  have hlt8 := World.block_lt_of_cell? w _ c8
  have HD := Lib.hid h
  have HG := Lib.hid hg
  clear hE h hg
  go_enter Tryd.func18, Tryd.ntmps18
  go_wp2_with fail
  refine (gone_calls HD.out hf).mono ?_
  rintro e w1 ⟨rfl, hD1, hk1⟩
  rw [HG.out] at hD1 ⊢
  have d8 := (hk1.cell (x := ⟨1, 0, none⟩) hlt8 (by simp only; omega)).trans c8
  try unfold ev errV at d8
  have HD1 := Lib.hid hD1
  have HK1 := Lib.hid hk1
  clear hD1 hk1 c8
  go_wp2_with fail
  go_ret
  exact ⟨rfl, HD1.out, HK1.out⟩
set_option maxRecDepth 100000 in
theorem flush_gone {ks : List Nat} {B : Nat} {p : Nat → Addr} (hE : Errs ks B p w) (h8 : 8 ∈ ks) (h : Dsk lo w d n fb pb F P calls fuse down) (hB : B ≤ d) (hf : fuse ≤ 4611686018427387904) (hg : goneD fuse down = true) :
    Calls Tryd.prog 23 #[.pointer (some ⟨d, 0, none⟩)] w fun e w' => e = .returned (ev p 8) ∧ Dsk lo w' d n fb pb F P calls (goneF fuse down) true ∧ Keep (fun x => x = d) w w' := by
  have hg8 := (hE.lt 8 h8).1
  have c8 := hE.cell 8 h8
  simp only [gl] at c8 hg8
  have hlt8 := World.block_lt_of_cell? w _ c8
  have HD := Lib.hid h
  have HG := Lib.hid hg
  clear hE h hg
  go_enter Tryd.func23, Tryd.ntmps23
  go_wp2_with fail
  refine (gone_calls HD.out hf).mono ?_
  rintro e w1 ⟨rfl, hD1, hk1⟩
  rw [HG.out] at hD1 ⊢
  have d8 := (hk1.cell (x := ⟨1, 0, none⟩) hlt8 (by simp only; omega)).trans c8
  try unfold ev errV at d8
  have HD1 := Lib.hid hD1
  have HK1 := Lib.hid hk1
  clear hD1 hk1 c8
  go_wp2_with fail
  go_ret
  exact ⟨rfl, HD1.out, HK1.out⟩
end
end Go.Proofs.YtehacchacgfjlaaDoor
