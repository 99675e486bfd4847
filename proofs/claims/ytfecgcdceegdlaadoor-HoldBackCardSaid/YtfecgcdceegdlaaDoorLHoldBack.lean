/- The statement of pledgelaw14.HoldBack, out of its walk: for every input the Go function returns true, and each argument reads afterwards as before. Conditions: none of this text's; the row lists the sentinel errors as their initialisers lay them, and the card ties that to the program's text. -/
import Derived.Test.YtfecgcdceegdlaaDoorWHoldBack
import Derived.Test.YtfecgcdceegdlaaDoorLaid
import Derived.Test.YtfecgcdceegdlaaDoorRows
import Derived.Test.YtfecgcdceegdlaaDoorCards
import Derived.Test.YtfecgcdceegdlaaDoorTie
import Derived.OpenShut
import Derived.ShutString
import Derived.ChangeOld
import Derived.SevenTiedAt
import Derived.Stop.Joined
namespace Go.Proofs.YtfecgcdceegdlaaDoor.holdBack
open Go.ChangeShapes Go.WideShapes Go.ChangeAt Go.RowKit
open Go.ChangeMaps (open_string shut_string)
set_option linter.unusedVariables false
set_option linter.unusedSimpArgs false

theorem door_met (os : Os) (args : Array Value) : laidMetH Tryd.prog Rows.holdBackRow.laid ((World.doorLaid Tryd.prog 408 os).forCall (fun _ _ => 0) ⟨#[], args, []⟩).memory :=
  laidMetH_of_parts3 (fuel := 8) (laidMet_of_run' 8 (by kernel_rfl) (by kernel_rfl)) (by kernel_rfl) (by kernel_rfl)

set_option maxRecDepth 100000 in
theorem listed : Listed Rows.holdBackRow.laid [0, 1, 2, 3, 4, 5, 6, 7, 8, 9, 10, 11, 12, 13, 14, 15, 16, 17, 18, 19, 20] :=
  ⟨by kernel_rfl, by kernel_rfl, ⟨_, rfl⟩, ⟨by kernel_rfl, by kernel_rfl, ⟨_, rfl⟩, ⟨by kernel_rfl, by kernel_rfl, ⟨_, rfl⟩, ⟨by kernel_rfl, by kernel_rfl, ⟨_, rfl⟩, ⟨by kernel_rfl, by kernel_rfl, ⟨_, rfl⟩, ⟨by kernel_rfl, by kernel_rfl, ⟨_, rfl⟩, ⟨by kernel_rfl, by kernel_rfl, ⟨_, rfl⟩, ⟨by kernel_rfl, by kernel_rfl, ⟨_, rfl⟩, ⟨by kernel_rfl, by kernel_rfl, ⟨_, rfl⟩, ⟨by kernel_rfl, by kernel_rfl, ⟨_, rfl⟩, ⟨by kernel_rfl, by kernel_rfl, ⟨_, rfl⟩, ⟨by kernel_rfl, by kernel_rfl, ⟨_, rfl⟩, ⟨by kernel_rfl, by kernel_rfl, ⟨_, rfl⟩, ⟨by kernel_rfl, by kernel_rfl, ⟨_, rfl⟩, ⟨by kernel_rfl, by kernel_rfl, ⟨_, rfl⟩, ⟨by kernel_rfl, by kernel_rfl, ⟨_, rfl⟩, ⟨by kernel_rfl, by kernel_rfl, ⟨_, rfl⟩, ⟨by kernel_rfl, by kernel_rfl, ⟨_, rfl⟩, ⟨by kernel_rfl, by kernel_rfl, ⟨_, rfl⟩, ⟨by kernel_rfl, by kernel_rfl, ⟨_, rfl⟩, ⟨by kernel_rfl, by kernel_rfl, ⟨_, rfl⟩, trivial⟩⟩⟩⟩⟩⟩⟩⟩⟩⟩⟩⟩⟩⟩⟩⟩⟩⟩⟩⟩⟩

set_option maxRecDepth 100000 in
theorem lifted (os : Os) (started : os.Started) (H : Type) (enc : TypeId × Value → H) :
    ReturnsInHanded {} Tryd.checked os 6 .any (fun w args => (Rows.holdBackSpec.pre enc Tryd.prog Tryd.f6 [] false w args ∧ laidMetH Tryd.prog Rows.holdBackRow.laid w) ∧ sizedMet enc Tryd.prog Tryd.f6 (OpenSpec.ofChange Rows.holdBackSpec) false w args)
      (Rows.holdBackSpec.post enc Tryd.prog Tryd.f6 false true false false) := by
  refine returnsInHanded_of_change_and (C := Tryd.checked) (X := fun w _ => laidMetH Tryd.prog Rows.holdBackRow.laid w) (fun _ _ _ hh h => h.of_heap hh) prog_own started (by kernel_rfl) Tryd.func6
    (ChangeSpec.witness_shaped (enc := enc) (C := Tryd.checked) (os := os) (X := fun w _ => laidMetH Tryd.prog Rows.holdBackRow.laid w) false (World.doorLaid Tryd.prog 408 os) #[.agg #[.int .i64 0, .int .i64 0], .int .i64 0, .int .i64 0] 8 rfl (World.shaped_of_RefB (by kernel_rfl) (by kernel_rfl)) (by kernel_rfl) (by kernel_rfl) (by kernel_rfl) (door_met os _)) ?_
  intro W base args ds gs before hval0 hW _ hsz hL _
  have hval : ∀ (j : Nat) t v, Tryd.f6.params[j]? = some t → args[j]? = some v → Value.okWide Tryd.prog W .any base t v := hval0
  have hW' := hW
  obtain ⟨p, q, hA0, hV, rfl, hfz, hnd⟩ := hW
  have hA : DataW.TrodAll enc Tryd.prog W 0 (fun _ => true) true Tryd.f6.params.toList args.toList ds p := hA0
  rw [Tryd.params6] at hA hval
  obtain ⟨v0, vs0, d0, ds0, p0, q0, hargs, rfl, rfl, h0, r0⟩ := trodAll_cons hA
  obtain ⟨v1, vs1, d1, ds1, p1, q1, rfl, rfl, rfl, h1, r1⟩ := trodAll_cons r0
  obtain ⟨v2, vs2, d2, ds2, p2, q2, rfl, rfl, rfl, h2, r2⟩ := trodAll_cons r1
  obtain ⟨rfl, rfl, rfl⟩ := trodAll_nil r2
  obtain rfl : args = #[v0, v1, v2] := by cases args; simp_all
  obtain ⟨rfl, rfl⟩ := trodVars_none hV
  obtain ⟨cs0, rfl, hcs0⟩ := okWide_struct Tryd.underlying55 (hval 0 55 v0 rfl rfl)
  have k0 := h0
  have lt0 : ∀ x ∈ p0, x.block < W.heap.size := by obtain ⟨m, hm⟩ := k0; exact DataW.trod_lt m _ _ _ hm
  obtain ⟨z0, hz0, hl0, hw0⟩ : ∃ zs : List Int, cs0.toList = zs.map (fun z => Value.int .i64 z) ∧ zs.length = 2 ∧ ∀ z ∈ zs, (Lit.int .i64 z).wf = true := by
    obtain ⟨fuel, hf⟩ := h0
    exact (AllI.struct Tryd.underlying55 (by kernel_rfl) ⟨1, 1, rfl, by kernel_rfl, (AllI.int Tryd.underlying3), ⟨1, 0, rfl, by kernel_rfl, (AllI.int Tryd.underlying3), rfl, rfl⟩, rfl⟩) hf
  obtain ⟨a0_0, a0_1, rfl⟩ : ∃ x0 x1, z0 = [x0, x1] := by
    match z0, hl0 with
    | [x0, x1], _ => exact ⟨x0, x1, rfl⟩
  obtain rfl : cs0 = #[.int .i64 a0_0, .int .i64 a0_1] := by apply Array.ext'; simpa using hz0
  obtain ⟨a1, rfl, rfl, rfl, w1⟩ := open_int Tryd.underlying2 (hval 1 2 v1 rfl rfl) h1
  have b1 := bounds_i64 w1
  obtain ⟨a2, rfl, rfl, rfl, w2⟩ := open_int Tryd.underlying2 (hval 2 2 v2 rfl rfl) h2
  have b2 := bounds_i64 w2
  rw [MakeChecks.laidMetH_plain _ _ _ (by kernel_rfl)] at hL
  obtain ⟨pe, hE⟩ := errs_of_laid hL listed (by decide)
  clear hA0 hval0
  refine (walk_HoldBack hE a0_0 a0_1 a1 a2 (bounds_i64 (hw0 a0_0 (by simp))).1 (bounds_i64 (hw0 a0_0 (by simp))).2 (bounds_i64 (hw0 a0_1 (by simp))).1 (bounds_i64 (hw0 a0_1 (by simp))).2 b1.1 b1.2 b2.1 b2.2).mono fun e W' ⟨he, bel⟩ => ?_
  subst he
  exact ⟨_, rfl, _, _, _, [], _, [], hW', trodAll_mk1 (shut_bool Tryd.underlying4 _), (trodAll_cons_mk (Below.trod prog_laidOut (by kernel_rfl) (of_decide_eq_true (by kernel_rfl)) k0 bel lt0) (trodAll_cons_mk (shut_int Tryd.underlying2 w1) (trodAll_cons_mk (shut_int Tryd.underlying2 w2) trodAll_mk0))), rfl, bel.frame _, fun h => by cases h⟩

theorem over : Rows.holdBackRow.holds Tryd.pinned (OpenSpec.ofChange Rows.holdBackSpec) :=
  OpenClaim.holds_of_wide 6 Tryd.f6 rfl rfl rfl rfl rfl rfl rfl ⟨rfl, rfl, rfl, rfl, rfl⟩ rfl rfl rfl rfl rfl (by kernel_rfl) Tryd.func6 (by kernel_rfl)
    (of_decide_eq_true (by kernel_rfl)) (by unfold Func.isWrapper; first | (rw [if_pos (by decide +kernel)]; kernel_rfl) | (rw [if_neg (by decide +kernel)]; exact ⟨rfl, rfl⟩))
    (fun os started H enc _ => lifted os started H enc)

theorem proved : Rows.HoldBackCardSaid :=
  Claim7.holds_tied_plain_at .later [] [.sentinel, .sentinel, .sentinel, .sentinel, .sentinel, .sentinel, .sentinel, .sentinel, .sentinel, .sentinel, .sentinel, .sentinel, .sentinel, .sentinel, .sentinel, .sentinel, .sentinel, .sentinel, .sentinel, .sentinel, .sentinel] true (true, "44e8a4ef334e2ea09da434df0f8ec51be9376a366e0373ca595f1b3df0bef5a1") true
    over (fun _ h => by cases h) (by kernel_rfl) (fun _ h => by cases h) holdBack_row_tie rfl ⟨rfl, rfl⟩ (by kernel_rfl) rfl
    (fun f fn hf hfn => by
      obtain rfl : f = 6 := Option.some.inj ((show Tryd.prog.funcNamed "pledge/pledgelaw14.HoldBack" = some 6 by kernel_rfl).symm.trans hf) |>.symm
      obtain rfl : fn = Tryd.f6 := (Option.some.inj (Tryd.func6.symm.trans hfn)).symm
      exact ⟨by kernel_rfl, fun j t ht => by
        rw [Tryd.params6] at ht
        have hm : t ∈ [55, 2, 2] := by simpa using Array.mem_of_getElem? ht
        have hall : ([55, 2, 2].all fun u => !Tryd.prog.wantsStandIn u) = true := by kernel_rfl
        exact (show Tryd.prog.wantsStandIn t = false by simpa using List.all_eq_true.1 hall t hm)⟩)
    (by kernel_rfl)
#print axioms proved
end Go.Proofs.YtfecgcdceegdlaaDoor.holdBack
