/- The statement of pledgelaw16.CapsPlay, out of its walk: for every input the Go function returns true, and each argument reads afterwards as before. Conditions: none of this text's; the row lists the sentinel errors as their initialisers lay them, and the card ties that to the program's text. -/
import Derived.Test.YtkdmedmlbglgmaaDoorWCapsPlay
import Derived.Test.YtkdmedmlbglgmaaDoorLaid
import Derived.Test.YtkdmedmlbglgmaaDoorRows
import Derived.Test.YtkdmedmlbglgmaaDoorCards
import Derived.Test.YtkdmedmlbglgmaaDoorTie
import Derived.OpenShut
import Derived.SizedLaws
import Derived.ShutString
import Derived.ChangeOld
import Derived.SevenTiedAt
import Derived.Stop.Joined
namespace Go.Proofs.YtkdmedmlbglgmaaDoor.capsPlay
open Go.ChangeShapes Go.WideShapes Go.ChangeAt Go.RowKit
open Go.ChangeMaps (open_string shut_string)
set_option linter.unusedVariables false
set_option linter.unusedSimpArgs false

theorem door_met (os : Os) (args : Array Value) : laidMetH Tryd.prog Rows.capsPlayRow.laid ((World.doorLaid Tryd.prog 471 os).forCall (fun _ _ => 0) ⟨#[], args, []⟩).memory :=
  laidMetH_of_parts3 (fuel := 8) (laidMet_of_run' 8 (by kernel_rfl) (by kernel_rfl)) (by kernel_rfl) (by kernel_rfl)

set_option maxRecDepth 100000 in
theorem listed : Listed Rows.capsPlayRow.laid [0, 1, 2, 3, 4, 5, 6, 7, 8, 9, 10, 11, 12, 13, 14, 15, 16, 17, 18, 19, 20] :=
  ⟨by kernel_rfl, by kernel_rfl, ⟨_, rfl⟩, ⟨by kernel_rfl, by kernel_rfl, ⟨_, rfl⟩, ⟨by kernel_rfl, by kernel_rfl, ⟨_, rfl⟩, ⟨by kernel_rfl, by kernel_rfl, ⟨_, rfl⟩, ⟨by kernel_rfl, by kernel_rfl, ⟨_, rfl⟩, ⟨by kernel_rfl, by kernel_rfl, ⟨_, rfl⟩, ⟨by kernel_rfl, by kernel_rfl, ⟨_, rfl⟩, ⟨by kernel_rfl, by kernel_rfl, ⟨_, rfl⟩, ⟨by kernel_rfl, by kernel_rfl, ⟨_, rfl⟩, ⟨by kernel_rfl, by kernel_rfl, ⟨_, rfl⟩, ⟨by kernel_rfl, by kernel_rfl, ⟨_, rfl⟩, ⟨by kernel_rfl, by kernel_rfl, ⟨_, rfl⟩, ⟨by kernel_rfl, by kernel_rfl, ⟨_, rfl⟩, ⟨by kernel_rfl, by kernel_rfl, ⟨_, rfl⟩, ⟨by kernel_rfl, by kernel_rfl, ⟨_, rfl⟩, ⟨by kernel_rfl, by kernel_rfl, ⟨_, rfl⟩, ⟨by kernel_rfl, by kernel_rfl, ⟨_, rfl⟩, ⟨by kernel_rfl, by kernel_rfl, ⟨_, rfl⟩, ⟨by kernel_rfl, by kernel_rfl, ⟨_, rfl⟩, ⟨by kernel_rfl, by kernel_rfl, ⟨_, rfl⟩, ⟨by kernel_rfl, by kernel_rfl, ⟨_, rfl⟩, trivial⟩⟩⟩⟩⟩⟩⟩⟩⟩⟩⟩⟩⟩⟩⟩⟩⟩⟩⟩⟩⟩

set_option maxRecDepth 100000 in
theorem lifted (os : Os) (started : os.Started) (H : Type) (enc : TypeId × Value → H) :
    ReturnsInHanded {} Tryd.checked os 4 .any (fun w args => (Rows.capsPlaySpec.pre enc Tryd.prog Tryd.f4 [] false w args ∧ laidMetH Tryd.prog Rows.capsPlayRow.laid w) ∧ sizedMet enc Tryd.prog Tryd.f4 (OpenSpec.ofChange Rows.capsPlaySpec) false w args)
      (Rows.capsPlaySpec.post enc Tryd.prog Tryd.f4 false true false false) := by
  refine returnsInHanded_of_change_and (C := Tryd.checked) (X := fun w _ => laidMetH Tryd.prog Rows.capsPlayRow.laid w) (fun _ _ _ hh h => h.of_heap hh) prog_own started (by kernel_rfl) Tryd.func4
    (ChangeSpec.witness_shaped (enc := enc) (C := Tryd.checked) (os := os) (X := fun w _ => laidMetH Tryd.prog Rows.capsPlayRow.laid w) false (World.doorLaid Tryd.prog 471 os) #[.slice none 0 0, .slice none 0 0, .agg #[.int .i64 0, .int .i64 0]] 8 rfl (World.shaped_of_RefB (by kernel_rfl) (by kernel_rfl)) (by kernel_rfl) (by kernel_rfl) (by kernel_rfl) (door_met os _)) ?_
  intro W base args ds gs before hval0 hW _ hsz hL _
  have hval : ∀ (j : Nat) t v, Tryd.f4.params[j]? = some t → args[j]? = some v → Value.okWide Tryd.prog W .any base t v := hval0
  have hW' := hW
  obtain ⟨p, q, hA0, hV, rfl, hfz, hnd⟩ := hW
  have hA : DataW.TrodAll enc Tryd.prog W 0 (fun _ => true) true Tryd.f4.params.toList args.toList ds p := hA0
  rw [Tryd.params4] at hA hval
  obtain ⟨v0, vs0, d0, ds0, p0, q0, hargs, rfl, rfl, h0, r0⟩ := trodAll_cons hA
  obtain ⟨v1, vs1, d1, ds1, p1, q1, rfl, rfl, rfl, h1, r1⟩ := trodAll_cons r0
  obtain ⟨v2, vs2, d2, ds2, p2, q2, rfl, rfl, rfl, h2, r2⟩ := trodAll_cons r1
  obtain ⟨rfl, rfl, rfl⟩ := trodAll_nil r2
  obtain rfl : args = #[v0, v1, v2] := by cases args; simp_all
  obtain ⟨rfl, rfl⟩ := trodVars_none hV
  obtain ⟨a0, len0, cap0, rfl⟩ := okWide_slice Tryd.underlying38 (hval 0 38 v0 rfl rfl)
  have k0 := h0
  have lt0 : ∀ x ∈ p0, x.block < W.heap.size := by obtain ⟨m, hm⟩ := k0; exact DataW.trod_lt m _ _ _ hm
  obtain ⟨z0, w0⟩ : ∃ zs, IsRows 3 W a0 len0 cap0 zs := by
    obtain ⟨fuel, hf⟩ := h0
    exact isRows_of (by decide) Tryd.underlying38 (by kernel_rfl) (AllI.struct Tryd.underlying46 (by kernel_rfl) ⟨2, 1, rfl, by kernel_rfl, (AllI.struct Tryd.underlying30 (by kernel_rfl) ⟨1, 1, rfl, by kernel_rfl, (AllI.int Tryd.underlying3), ⟨1, 0, rfl, by kernel_rfl, (AllI.int Tryd.underlying3), rfl, rfl⟩, rfl⟩), ⟨1, 0, rfl, by kernel_rfl, (AllI.int Tryd.underlying2), rfl, rfl⟩, rfl⟩) hf
  obtain ⟨a1, len1, cap1, rfl⟩ := okWide_slice Tryd.underlying39 (hval 1 39 v1 rfl rfl)
  have k1 := h1
  have lt1 : ∀ x ∈ p1, x.block < W.heap.size := by obtain ⟨m, hm⟩ := k1; exact DataW.trod_lt m _ _ _ hm
  obtain ⟨z1, w1⟩ : ∃ zs, IsRows 4 W a1 len1 cap1 zs := by
    obtain ⟨fuel, hf⟩ := h1
    exact isRows_of (by decide) Tryd.underlying39 (by kernel_rfl) (AllI.struct Tryd.underlying32 (by kernel_rfl) ⟨1, 3, rfl, by kernel_rfl, (AllI.int Tryd.underlying3), ⟨1, 2, rfl, by kernel_rfl, (AllI.int Tryd.underlying3), ⟨1, 1, rfl, by kernel_rfl, (AllI.int Tryd.underlying3), ⟨1, 0, rfl, by kernel_rfl, (AllI.int Tryd.underlying2), rfl, rfl⟩, rfl⟩, rfl⟩, rfl⟩) hf
  obtain ⟨cs2, rfl, hcs2⟩ := okWide_struct Tryd.underlying30 (hval 2 30 v2 rfl rfl)
  have k2 := h2
  have lt2 : ∀ x ∈ p2, x.block < W.heap.size := by obtain ⟨m, hm⟩ := k2; exact DataW.trod_lt m _ _ _ hm
  obtain ⟨z2, hz2, hl2, hw2⟩ : ∃ zs : List Int, cs2.toList = zs.map (fun z => Value.int .i64 z) ∧ zs.length = 2 ∧ ∀ z ∈ zs, (Lit.int .i64 z).wf = true := by
    obtain ⟨fuel, hf⟩ := h2
    exact (AllI.struct Tryd.underlying30 (by kernel_rfl) ⟨1, 1, rfl, by kernel_rfl, (AllI.int Tryd.underlying3), ⟨1, 0, rfl, by kernel_rfl, (AllI.int Tryd.underlying3), rfl, rfl⟩, rfl⟩) hf
  obtain ⟨a2_0, a2_1, rfl⟩ : ∃ x0 x1, z2 = [x0, x1] := by
    match z2, hl2 with
    | [x0, x1], _ => exact ⟨x0, x1, rfl⟩
  obtain rfl : cs2 = #[.int .i64 a2_0, .int .i64 a2_1] := by apply Array.ext'; simpa using hz2
  rw [MakeChecks.laidMetH_plain _ _ _ (by kernel_rfl)] at hL
  obtain ⟨pe, hE⟩ := errs_of_laid hL listed (by decide)
  clear hA0 hval0
  refine (walk_CapsPlay hE a0 len0 cap0 z0 a1 len1 cap1 z1 a2_0 a2_1 w0 w1 (bounds_i64 (hw2 a2_0 (by simp))).1 (bounds_i64 (hw2 a2_0 (by simp))).2 (bounds_i64 (hw2 a2_1 (by simp))).1 (bounds_i64 (hw2 a2_1 (by simp))).2).mono fun e W' ⟨he, bel⟩ => ?_
  subst he
  exact ⟨_, rfl, _, _, _, [], _, [], hW', trodAll_mk1 (shut_bool Tryd.underlying4 _), (trodAll_cons_mk (Below.trod prog_laidOut (by kernel_rfl) (of_decide_eq_true (by kernel_rfl)) k0 bel lt0) (trodAll_cons_mk (Below.trod prog_laidOut (by kernel_rfl) (of_decide_eq_true (by kernel_rfl)) k1 bel lt1) (trodAll_cons_mk (Below.trod prog_laidOut (by kernel_rfl) (of_decide_eq_true (by kernel_rfl)) k2 bel lt2) trodAll_mk0))), rfl, bel.frame _, fun h => by cases h⟩

theorem over : Rows.capsPlayRow.holds Tryd.pinned (OpenSpec.ofChange Rows.capsPlaySpec) :=
  OpenClaim.holds_of_wide 4 Tryd.f4 rfl rfl rfl rfl rfl rfl rfl ⟨rfl, rfl, rfl, rfl, rfl⟩ rfl rfl rfl rfl rfl (by kernel_rfl) Tryd.func4 (by kernel_rfl)
    (of_decide_eq_true (by kernel_rfl)) (by unfold Func.isWrapper; first | (rw [if_pos (by decide +kernel)]; kernel_rfl) | (rw [if_neg (by decide +kernel)]; exact ⟨rfl, rfl⟩))
    (fun os started H enc _ => lifted os started H enc)

theorem proved : Rows.CapsPlayCardSaid :=
  Claim7.holds_tied_plain_at .later [] [.sentinel, .sentinel, .sentinel, .sentinel, .sentinel, .sentinel, .sentinel, .sentinel, .sentinel, .sentinel, .sentinel, .sentinel, .sentinel, .sentinel, .sentinel, .sentinel, .sentinel, .sentinel, .sentinel, .sentinel, .sentinel] true (true, "116d7e5b11ed86da2ef837b7feb4ae8cf8a7135380f1003f3be9597b671a0cc3") true
    over (fun _ h => by cases h) (by kernel_rfl) (fun _ h => by cases h) capsPlay_row_tie rfl ⟨rfl, rfl⟩ (by kernel_rfl) rfl
    (fun f fn hf hfn => by
      obtain rfl : f = 4 := Option.some.inj ((show Tryd.prog.funcNamed "pledge/pledgelaw16.CapsPlay" = some 4 by kernel_rfl).symm.trans hf) |>.symm
      obtain rfl : fn = Tryd.f4 := (Option.some.inj (Tryd.func4.symm.trans hfn)).symm
      exact ⟨by kernel_rfl, fun j t ht => by
        rw [Tryd.params4] at ht
        have hm : t ∈ [38, 39, 30] := by simpa using Array.mem_of_getElem? ht
        have hall : ([38, 39, 30].all fun u => !Tryd.prog.wantsStandIn u) = true := by kernel_rfl
        exact (show Tryd.prog.wantsStandIn t = false by simpa using List.all_eq_true.1 hall t hm)⟩)
    (by kernel_rfl)
#print axioms proved
end Go.Proofs.YtkdmedmlbglgmaaDoor.capsPlay
