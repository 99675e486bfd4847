/- The statement of pledgelaw25.OpBack, out of its walk: for every input the Go function returns true, and each argument reads afterwards as before. Conditions: none of this text's; the row lists the sentinel errors as their initialisers lay them, and the card ties that to the program's text. -/
import Derived.Test.YtkdmedmlbglgmaaDoorFlat
import Derived.Test.YtkdmedmlbglgmaaDoorWOpBack
import Derived.Test.YtkdmedmlbglgmaaDoorParLaid
import Derived.Test.YtkdmedmlbglgmaaDoorRows
import Derived.Test.YtkdmedmlbglgmaaDoorCards
import Derived.Test.YtkdmedmlbglgmaaDoorTie
import Derived.OpenShut
import Derived.SizedLaws
import Derived.ShutString
import Derived.ChangeOld
import Derived.SevenTiedAt
import Derived.Stop.Joined
namespace Go.Proofs.YtkdmedmlbglgmaaDoor.opBack
open Go.ChangeShapes Go.WideShapes Go.ChangeAt Go.RowKit
open Go.ChangeMaps (open_string shut_string)
set_option linter.unusedVariables false
set_option linter.unusedSimpArgs false

set_option maxRecDepth 100000 in
def errRows : List (String × DataW Unit) := [("pledge/api.ErrEnd", Rows.laid_pledge_api_ErrEnd), ("pledge/api.ErrShape", Rows.laid_pledge_api_ErrShape), ("pledge/api.ErrRange", Rows.laid_pledge_api_ErrRange), ("pledge/api.ErrOver", Rows.laid_pledge_api_ErrOver), ("pledge/api.ErrMany", Rows.laid_pledge_api_ErrMany), ("pledge/api.ErrNone", Rows.laid_pledge_api_ErrNone), ("pledge/api.ErrThere", Rows.laid_pledge_api_ErrThere), ("pledge/api.ErrFull", Rows.laid_pledge_api_ErrFull), ("pledge/api.ErrCrash", Rows.laid_pledge_api_ErrCrash), ("pledge/api.ErrTwice", Rows.laid_pledge_api_ErrTwice), ("pledge/api.ErrKind", Rows.laid_pledge_api_ErrKind), ("pledge/api.ErrBarred", Rows.laid_pledge_api_ErrBarred), ("pledge/api.ErrShort", Rows.laid_pledge_api_ErrShort), ("pledge/api.ErrBreach", Rows.laid_pledge_api_ErrBreach), ("pledge/api.ErrNeed", Rows.laid_pledge_api_ErrNeed), ("pledge/api.ErrBound", Rows.laid_pledge_api_ErrBound), ("pledge/api.ErrDay", Rows.laid_pledge_api_ErrDay), ("pledge/api.ErrWord", Rows.laid_pledge_api_ErrWord), ("pledge/api.ErrNumber", Rows.laid_pledge_api_ErrNumber), ("pledge/api.ErrBudget", Rows.laid_pledge_api_ErrBudget), ("pledge/api.ErrNothing", Rows.laid_pledge_api_ErrNothing)]
theorem synRow_eq : Rows.opBackRow.laid.filter (fun x => ["strconv.ErrSyntax"].contains x.1) = ("strconv.ErrSyntax", Rows.laid_strconv_ErrSyntax) :: [] := by kernel_rfl
theorem rngRow_eq : Rows.opBackRow.laid.filter (fun x => ["strconv.ErrRange"].contains x.1) = ("strconv.ErrRange", Rows.laid_strconv_ErrRange) :: [] := by kernel_rfl
theorem errRows_eq : Rows.opBackRow.laid.filter (fun x => ["pledge/api.ErrEnd", "pledge/api.ErrShape", "pledge/api.ErrRange", "pledge/api.ErrOver", "pledge/api.ErrMany", "pledge/api.ErrNone", "pledge/api.ErrThere", "pledge/api.ErrFull", "pledge/api.ErrCrash", "pledge/api.ErrTwice", "pledge/api.ErrKind", "pledge/api.ErrBarred", "pledge/api.ErrShort", "pledge/api.ErrBreach", "pledge/api.ErrNeed", "pledge/api.ErrBound", "pledge/api.ErrDay", "pledge/api.ErrWord", "pledge/api.ErrNumber", "pledge/api.ErrBudget", "pledge/api.ErrNothing"].contains x.1) = errRows := by kernel_rfl
theorem powRow_eq : Rows.opBackRow.laid.filter (fun x => ["internal/strconv.uint64pow10"].contains x.1) = ("internal/strconv.uint64pow10", Lib.tabData .u64 Lib.pow10Tab) :: [] := by kernel_rfl
set_option maxRecDepth 100000 in
theorem listed : Listed errRows [0, 1, 2, 3, 4, 5, 6, 7, 8, 9, 10, 11, 12, 13, 14, 15, 16, 17, 18, 19, 20] :=
  ⟨by kernel_rfl, by kernel_rfl, ⟨_, rfl⟩, ⟨by kernel_rfl, by kernel_rfl, ⟨_, rfl⟩, ⟨by kernel_rfl, by kernel_rfl, ⟨_, rfl⟩, ⟨by kernel_rfl, by kernel_rfl, ⟨_, rfl⟩, ⟨by kernel_rfl, by kernel_rfl, ⟨_, rfl⟩, ⟨by kernel_rfl, by kernel_rfl, ⟨_, rfl⟩, ⟨by kernel_rfl, by kernel_rfl, ⟨_, rfl⟩, ⟨by kernel_rfl, by kernel_rfl, ⟨_, rfl⟩, ⟨by kernel_rfl, by kernel_rfl, ⟨_, rfl⟩, ⟨by kernel_rfl, by kernel_rfl, ⟨_, rfl⟩, ⟨by kernel_rfl, by kernel_rfl, ⟨_, rfl⟩, ⟨by kernel_rfl, by kernel_rfl, ⟨_, rfl⟩, ⟨by kernel_rfl, by kernel_rfl, ⟨_, rfl⟩, ⟨by kernel_rfl, by kernel_rfl, ⟨_, rfl⟩, ⟨by kernel_rfl, by kernel_rfl, ⟨_, rfl⟩, ⟨by kernel_rfl, by kernel_rfl, ⟨_, rfl⟩, ⟨by kernel_rfl, by kernel_rfl, ⟨_, rfl⟩, ⟨by kernel_rfl, by kernel_rfl, ⟨_, rfl⟩, ⟨by kernel_rfl, by kernel_rfl, ⟨_, rfl⟩, ⟨by kernel_rfl, by kernel_rfl, ⟨_, rfl⟩, ⟨by kernel_rfl, by kernel_rfl, ⟨_, rfl⟩, trivial⟩⟩⟩⟩⟩⟩⟩⟩⟩⟩⟩⟩⟩⟩⟩⟩⟩⟩⟩⟩⟩

set_option maxRecDepth 100000 in
theorem lifted (os : Os) (started : os.Started) (H : Type) (enc : TypeId × Value → H) :
    ReturnsInHanded {} Tryd.checked os 7 .any (fun w args => (Rows.opBackSpec.pre enc Tryd.prog Tryd.f7 [] false w args ∧ laidMetH Tryd.prog Rows.opBackRow.laid w) ∧ sizedMet enc Tryd.prog Tryd.f7 (OpenSpec.ofChange Rows.opBackSpec) false w args)
      (Rows.opBackSpec.post enc Tryd.prog Tryd.f7 false true false false) := by
  refine handed_shaped (C := Tryd.checked) (X := fun w _ => laidMetH Tryd.prog Rows.opBackRow.laid w) (fun _ _ _ hh h => h.of_heap hh) prog_own started (by kernel_rfl) Tryd.func7
    (ChangeSpec.witness_shaped (enc := enc) (C := Tryd.checked) (os := os) (X := fun w _ => laidMetH Tryd.prog Rows.opBackRow.laid w) false (World.laidAll Tryd.prog os Rows.opBackRow.laid) #[.agg #[.int .i64 0, .int .i64 0, .int .i64 0, .int .i64 0, .int .i64 0, .int .i64 0, .int .i64 0, .int .i64 0], .agg #[.int .i64 0, .int .i64 0, .int .i64 0, .int .i64 0, .int .i64 0, .int .i64 0, .int .i64 0, .int .i64 0], .int .i64 0] 8 (World.laidAll_os _ _ _)
      (World.shaped_of_ZipB (by kernel_rfl) (by kernel_rfl)) (by kernel_rfl) (by kernel_rfl) (by kernel_rfl)
      (by rw [MakeChecks.laidMetH_plain _ _ _ (by kernel_rfl)]; exact laidMet_laidAll _ (by kernel_rfl) (by kernel_rfl))) ?_
  intro W base args ds gs before hval0 hW hsz hL hSh
  have hval : ∀ (j : Nat) t v, Tryd.f7.params[j]? = some t → args[j]? = some v → Value.okWide Tryd.prog W .any base t v := hval0
  have hW' := hW
  obtain ⟨p, q, hA0, hV, rfl, hfz, hnd⟩ := hW
  have hA : DataW.TrodAll enc Tryd.prog W 0 (fun _ => true) true Tryd.f7.params.toList args.toList ds p := hA0
  rw [Tryd.params7] at hA hval
  obtain ⟨v0, vs0, d0, ds0, p0, q0, hargs, rfl, rfl, h0, r0⟩ := trodAll_cons hA
  obtain ⟨v1, vs1, d1, ds1, p1, q1, rfl, rfl, rfl, h1, r1⟩ := trodAll_cons r0
  obtain ⟨v2, vs2, d2, ds2, p2, q2, rfl, rfl, rfl, h2, r2⟩ := trodAll_cons r1
  obtain ⟨rfl, rfl, rfl⟩ := trodAll_nil r2
  obtain rfl : args = #[v0, v1, v2] := by cases args; simp_all
  obtain ⟨rfl, rfl⟩ := trodVars_none hV
  obtain ⟨cs0, rfl, hcs0⟩ := okWide_struct Tryd.underlying61 (hval 0 61 v0 rfl rfl)
  have k0 := h0
  have lt0 : ∀ x ∈ p0, x.block < W.heap.size := by obtain ⟨m, hm⟩ := k0; exact DataW.trod_lt m _ _ _ hm
  obtain ⟨z0, hz0, hl0, hw0⟩ : ∃ zs : List Int, cs0.toList = zs.map (fun z => Value.int .i64 z) ∧ zs.length = 8 ∧ ∀ z ∈ zs, (Lit.int .i64 z).wf = true := by
    obtain ⟨fuel, hf⟩ := h0
    exact (AllI.struct Tryd.underlying61 (by kernel_rfl) ⟨1, 7, rfl, by kernel_rfl, (AllI.int Tryd.underlying2), ⟨1, 6, rfl, by kernel_rfl, (AllI.int Tryd.underlying3), ⟨1, 5, rfl, by kernel_rfl, (AllI.int Tryd.underlying3), ⟨1, 4, rfl, by kernel_rfl, (AllI.int Tryd.underlying3), ⟨1, 3, rfl, by kernel_rfl, (AllI.int Tryd.underlying3), ⟨1, 2, rfl, by kernel_rfl, (AllI.int Tryd.underlying3), ⟨1, 1, rfl, by kernel_rfl, (AllI.int Tryd.underlying2), ⟨1, 0, rfl, by kernel_rfl, (AllI.int Tryd.underlying2), rfl, rfl⟩, rfl⟩, rfl⟩, rfl⟩, rfl⟩, rfl⟩, rfl⟩, rfl⟩) hf
  obtain ⟨a0_0, a0_1, a0_2, a0_3, a0_4, a0_5, a0_6, a0_7, rfl⟩ : ∃ x0 x1 x2 x3 x4 x5 x6 x7, z0 = [x0, x1, x2, x3, x4, x5, x6, x7] := by
    match z0, hl0 with
    | [x0, x1, x2, x3, x4, x5, x6, x7], _ => exact ⟨x0, x1, x2, x3, x4, x5, x6, x7, rfl⟩
  obtain rfl : cs0 = #[.int .i64 a0_0, .int .i64 a0_1, .int .i64 a0_2, .int .i64 a0_3, .int .i64 a0_4, .int .i64 a0_5, .int .i64 a0_6, .int .i64 a0_7] := by apply Array.ext'; simpa using hz0
  obtain ⟨cs1, rfl, hcs1⟩ := okWide_struct Tryd.underlying61 (hval 1 61 v1 rfl rfl)
  have k1 := h1
  have lt1 : ∀ x ∈ p1, x.block < W.heap.size := by obtain ⟨m, hm⟩ := k1; exact DataW.trod_lt m _ _ _ hm
  obtain ⟨z1, hz1, hl1, hw1⟩ : ∃ zs : List Int, cs1.toList = zs.map (fun z => Value.int .i64 z) ∧ zs.length = 8 ∧ ∀ z ∈ zs, (Lit.int .i64 z).wf = true := by
    obtain ⟨fuel, hf⟩ := h1
    exact (AllI.struct Tryd.underlying61 (by kernel_rfl) ⟨1, 7, rfl, by kernel_rfl, (AllI.int Tryd.underlying2), ⟨1, 6, rfl, by kernel_rfl, (AllI.int Tryd.underlying3), ⟨1, 5, rfl, by kernel_rfl, (AllI.int Tryd.underlying3), ⟨1, 4, rfl, by kernel_rfl, (AllI.int Tryd.underlying3), ⟨1, 3, rfl, by kernel_rfl, (AllI.int Tryd.underlying3), ⟨1, 2, rfl, by kernel_rfl, (AllI.int Tryd.underlying3), ⟨1, 1, rfl, by kernel_rfl, (AllI.int Tryd.underlying2), ⟨1, 0, rfl, by kernel_rfl, (AllI.int Tryd.underlying2), rfl, rfl⟩, rfl⟩, rfl⟩, rfl⟩, rfl⟩, rfl⟩, rfl⟩, rfl⟩) hf
  obtain ⟨a1_0, a1_1, a1_2, a1_3, a1_4, a1_5, a1_6, a1_7, rfl⟩ : ∃ x0 x1 x2 x3 x4 x5 x6 x7, z1 = [x0, x1, x2, x3, x4, x5, x6, x7] := by
    match z1, hl1 with
    | [x0, x1, x2, x3, x4, x5, x6, x7], _ => exact ⟨x0, x1, x2, x3, x4, x5, x6, x7, rfl⟩
  obtain rfl : cs1 = #[.int .i64 a1_0, .int .i64 a1_1, .int .i64 a1_2, .int .i64 a1_3, .int .i64 a1_4, .int .i64 a1_5, .int .i64 a1_6, .int .i64 a1_7] := by apply Array.ext'; simpa using hz1
  obtain ⟨a2, rfl, rfl, rfl, w2⟩ := open_int Tryd.underlying3 (hval 2 3 v2 rfl rfl) h2
  have b2 := bounds_i64 w2
  rw [MakeChecks.laidMetH_plain _ _ _ (by kernel_rfl)] at hL
  have hL1 : laidMet Tryd.prog errRows W := by rw [← errRows_eq]; exact laidMet.filter _ hL
  obtain ⟨pe, hE⟩ := errs_of_laid hL1 listed (by decide)
  have hL2 : laidMet Tryd.prog (("internal/strconv.uint64pow10", Lib.tabData .u64 Lib.pow10Tab) :: []) W := by rw [← powRow_eq]; exact laidMet.filter _ hL
  have hT := parW_of_laid (opW_of_laid hL2 hSh) (laidMet.filter _ hL) synRow_eq (laidMet.filter _ hL) rngRow_eq rfl rfl
  clear hA0 hval0
  refine (walk_OpBack hE hT a0_0 a0_1 a0_2 a0_3 a0_4 a0_5 a0_6 a0_7 a1_0 a1_1 a1_2 a1_3 a1_4 a1_5 a1_6 a1_7 a2 (bounds_i64 (hw0 a0_0 (by simp))).1 (bounds_i64 (hw0 a0_0 (by simp))).2 (bounds_i64 (hw0 a0_1 (by simp))).1 (bounds_i64 (hw0 a0_1 (by simp))).2 (bounds_i64 (hw0 a0_2 (by simp))).1 (bounds_i64 (hw0 a0_2 (by simp))).2 (bounds_i64 (hw0 a0_3 (by simp))).1 (bounds_i64 (hw0 a0_3 (by simp))).2 (bounds_i64 (hw0 a0_4 (by simp))).1 (bounds_i64 (hw0 a0_4 (by simp))).2 (bounds_i64 (hw0 a0_5 (by simp))).1 (bounds_i64 (hw0 a0_5 (by simp))).2 (bounds_i64 (hw0 a0_6 (by simp))).1 (bounds_i64 (hw0 a0_6 (by simp))).2 (bounds_i64 (hw0 a0_7 (by simp))).1 (bounds_i64 (hw0 a0_7 (by simp))).2 (bounds_i64 (hw1 a1_0 (by simp))).1 (bounds_i64 (hw1 a1_0 (by simp))).2 (bounds_i64 (hw1 a1_1 (by simp))).1 (bounds_i64 (hw1 a1_1 (by simp))).2 (bounds_i64 (hw1 a1_2 (by simp))).1 (bounds_i64 (hw1 a1_2 (by simp))).2 (bounds_i64 (hw1 a1_3 (by simp))).1 (bounds_i64 (hw1 a1_3 (by simp))).2 (bounds_i64 (hw1 a1_4 (by simp))).1 (bounds_i64 (hw1 a1_4 (by simp))).2 (bounds_i64 (hw1 a1_5 (by simp))).1 (bounds_i64 (hw1 a1_5 (by simp))).2 (bounds_i64 (hw1 a1_6 (by simp))).1 (bounds_i64 (hw1 a1_6 (by simp))).2 (bounds_i64 (hw1 a1_7 (by simp))).1 (bounds_i64 (hw1 a1_7 (by simp))).2 b2.1 b2.2).mono fun e W' ⟨he, bel⟩ => ?_
  subst he
  exact ⟨_, rfl, _, _, _, [], _, [], hW', trodAll_mk1 (shut_bool Tryd.underlying4 _), (trodAll_cons_mk (Below.trod prog_laidOut (by kernel_rfl) (of_decide_eq_true (by kernel_rfl)) k0 bel lt0) (trodAll_cons_mk (Below.trod prog_laidOut (by kernel_rfl) (of_decide_eq_true (by kernel_rfl)) k1 bel lt1) (trodAll_cons_mk (shut_int Tryd.underlying3 w2) trodAll_mk0))), rfl, bel.frame _, fun h => by cases h⟩

theorem over : Rows.opBackRow.holds Tryd.pinned (OpenSpec.ofChange Rows.opBackSpec) :=
  OpenClaim.holds_of_wide 7 Tryd.f7 rfl rfl rfl rfl rfl rfl rfl ⟨rfl, rfl, rfl, rfl, rfl⟩ rfl rfl rfl rfl rfl (by kernel_rfl) Tryd.func7 (by kernel_rfl)
    (of_decide_eq_true (by kernel_rfl)) (by unfold Func.isWrapper; first | (rw [if_pos (by decide +kernel)]; kernel_rfl) | (rw [if_neg (by decide +kernel)]; exact ⟨rfl, rfl⟩))
    (fun os started H enc _ => lifted os started H enc)

theorem proved : Rows.OpBackCardSaid :=
  Claim7.holds_tied_plain_at .later [] [.data, .data, .data, .data, .sentinel, .sentinel, .sentinel, .sentinel, .sentinel, .sentinel, .sentinel, .sentinel, .sentinel, .sentinel, .sentinel, .sentinel, .sentinel, .sentinel, .sentinel, .sentinel, .sentinel, .sentinel, .sentinel, .sentinel, .sentinel, .sentinel, .sentinel, .pinned] true (true, "116d7e5b11ed86da2ef837b7feb4ae8cf8a7135380f1003f3be9597b671a0cc3") true
    over (fun _ h => by cases h) (by kernel_rfl) (fun _ h => by cases h) opBack_row_tie rfl ⟨rfl, rfl⟩ (by kernel_rfl) rfl
    (fun f fn hf hfn => by
      obtain rfl : f = 7 := Option.some.inj ((show Tryd.prog.funcNamed "pledge/pledgelaw25.OpBack" = some 7 by kernel_rfl).symm.trans hf) |>.symm
      obtain rfl : fn = Tryd.f7 := (Option.some.inj (Tryd.func7.symm.trans hfn)).symm
      exact ⟨by kernel_rfl, fun j t ht => by
        rw [Tryd.params7] at ht
        have hm : t ∈ [61, 61, 3] := by simpa using Array.mem_of_getElem? ht
        have hall : ([61, 61, 3].all fun u => !Tryd.prog.wantsStandIn u) = true := by kernel_rfl
        exact (show Tryd.prog.wantsStandIn t = false by simpa using List.all_eq_true.1 hall t hm)⟩)
    (by kernel_rfl)
#print axioms proved
end Go.Proofs.YtkdmedmlbglgmaaDoor.opBack
