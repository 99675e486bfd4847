/- (*disk.Disk).Write where it is refused; Read where there is no sector. -/
import Derived.Test.YtehacchacgfjlaaDoorDisk6
namespace Go.Proofs.YtehacchacgfjlaaDoor
open Go.Maps
open Go Go.RowKit
set_option linter.unusedSimpArgs false
set_option linter.unusedVariables false

section
variable {lo : Nat} {w w' : World} {d : Nat} {n : Int} {fb pb : Nat} {F P : SecL} {calls fuse : Int} {down : Bool}
set_option maxRecDepth 100000 in
theorem write_full {ks : List Nat} {B : Nat} {p : Nat → Addr} (hE : Errs ks B p w) (h7 : 7 ∈ ks) (h : Dsk lo w d n fb pb F P calls fuse down) (hfu : fuse ≤ 4611686018427387904) (hG : goneD fuse down = false) (hB : B ≤ d) (i : Int) (hi : i < 0 ∨ n ≤ i) (v : Value) :
    Calls Tryd.prog 18 #[.pointer (some ⟨d, 0, none⟩), .int .i64 i, v] w fun e w' => e = .returned (ev p 7) ∧ Dsk lo w' d n fb pb F P calls (goneF fuse down) false ∧ Keep (fun x => x = d) w w' := by
  have hg7 := (hE.lt 7 h7).1
  have c7 := hE.cell 7 h7
  simp only [gl] at c7 hg7
  have hlt7 := World.block_lt_of_cell? w _ c7
  have HD := Lib.hid h
  have HG := Lib.hid hG
  clear hE h hG
  go_enter Tryd.func18, Tryd.ntmps18
  go_wp2_with fail
  refine (gone_calls HD.out hfu).mono ?_
  rintro e w1 ⟨rfl, hD1, hk1⟩
  rw [HG.out] at hD1 ⊢
  obtain ⟨fu, hfu'⟩ : ∃ fu, fu = goneF fuse down := ⟨_, rfl⟩
  rw [← hfu'] at hD1
  have HFU := Lib.hid hfu'
  clear hfu'
  have d7 := (hk1.cell (x := ⟨2, 0, none⟩) hlt7 (by simp only; omega)).trans c7
  try unfold ev errV at d7
  have c0 := hD1.c0
  have HD1 := Lib.hid hD1
  have HK1 := Lib.hid hk1
  clear hD1 hk1 c7
  by_cases h0 : i < 0
  · clear hi
    go_wp2_with fail
    go_ret
    rw [← HFU.out]
    exact ⟨rfl, HD1.out, HK1.out⟩
  · have hi' : n ≤ i := hi.resolve_left h0
    clear hi
    go_wp2_with fail
    go_ret
    rw [← HFU.out]
    exact ⟨rfl, HD1.out, HK1.out⟩
set_option maxRecDepth 100000 in
theorem write_shape {ks : List Nat} {B : Nat} {p : Nat → Addr} (hE : Errs ks B p w) (h1 : 1 ∈ ks) (h : Dsk lo w d n fb pb F P calls fuse down) (hfu : fuse ≤ 4611686018427387904) (hG : goneD fuse down = false) (hB : B ≤ d) (i : Int) (h0 : 0 ≤ i) (hn : i < n) (ad : Option Addr) (l c : Nat) (hl : l ≠ 128) :
    Calls Tryd.prog 18 #[.pointer (some ⟨d, 0, none⟩), .int .i64 i, .slice ad l c] w fun e w' => e = .returned (ev p 1) ∧ Dsk lo w' d n fb pb F P calls (goneF fuse down) false ∧ Keep (fun x => x = d) w w' := by
  have hg1 := (hE.lt 1 h1).1
  have c7 := hE.cell 1 h1
  simp only [gl] at c7 hg1
  have hlt7 := World.block_lt_of_cell? w _ c7
  have HD := Lib.hid h
  have hl' : ((l : Int) != 128) = true := by simp; omega
  have HG := Lib.hid hG
  clear hE h hG
  go_enter Tryd.func18, Tryd.ntmps18
  go_wp2_with fail
  refine (gone_calls HD.out hfu).mono ?_
  rintro e w1 ⟨rfl, hD1, hk1⟩
  rw [HG.out] at hD1 ⊢
  obtain ⟨fu, hfu'⟩ : ∃ fu, fu = goneF fuse down := ⟨_, rfl⟩
  rw [← hfu'] at hD1
  have HFU := Lib.hid hfu'
  clear hfu'
  have d7 := (hk1.cell (x := ⟨3, 0, none⟩) hlt7 (by simp only; omega)).trans c7
  try unfold ev errV at d7
  have c0 := hD1.c0
  have HD1 := Lib.hid hD1
  have HK1 := Lib.hid hk1
  clear hD1 hk1 c7
  go_wp2_with fail
  go_ret
  rw [← HFU.out]
  exact ⟨rfl, HD1.out, HK1.out⟩
end
end Go.Proofs.YtehacchacgfjlaaDoor
