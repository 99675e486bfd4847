/-
  NARROWER THAN 'FOR EVERY INPUT', by the rows' own cells (each row's printed sentence says how): DiskShapes: laid · DiskTears: laid · DiskArms: laid · DiskKeeps: laid · DiskTwins: laid · RootBytes: laid · RootTears: laid · RootGreater: laid · RootSaves: laid · CutSteps: laid · CutPlays: laid · StressPlays: laid.
  DERIVED. THE GIVEN ROWS OF THIS SEAT. 12 by the template 'for every input the law returns true; each argument reads behind the call as it read before'; 0 by the template 'total and deterministic' (their statements: YtehacchacgfjlaaDoorTotals.lean).
  GIVEN WITH THE SEED: the statements are not yours to turn. If you find one false, say at which input.
  Laid BY PROGRAM, IN A SANDBOX (cutbox-rows.mjs): the forced cells as the released guide's own fill.sh prints them over the translation adee98b6d482bac6… (all of the seat's roots in one cut). By AI agents, Wed Nov 11 2026. No macro, syntax, notation, axiom, sorry.
-/
import Derived.Test.YtehacchacgfjlaaDoorChecked
import GoSem.Claim
import GoSem.ClaimJoined
import GoSem.ClaimMapViews
import Derived.JoinedTies
import Derived.KernelRfl
namespace Go.Proofs.YtehacchacgfjlaaDoor
/- THE CELL 'sum', in the pinned program and in every row, IS THE sha256 OF THE DUMP (.gsa) THAT YtehacchacgfjlaaDoorProg.lean LOADS. Nothing in Lean hashes anything: it is a label: what it is worth is what the hold of that sum in a sandbox is worth. -/
noncomputable def Tryd.pinned : Pinned := { name := "ytehacchacgfjlaadoor", sum := "adee98b6d482bac6d5f6664a71d049a8f7f04f9e061599a9cc3f9037e2d6a22a", checked := Tryd.checked }
namespace Rows
def none {H : Type} : Left H := { results := [], args := [] }

/- WHAT THE LISTED PACKAGE-LEVEL VARIABLES READ AS WHEN THE CALL BEGINS. Each datum BY PROGRAM (the guide's laid-datum.mjs) off the statement by which the dump's own 'gosem.cut.vars' lays the variable. In a bare row this is a premise. The card (YtehacchacgfjlaaDoorCards.lean) ties it to the program's text. -/
def laid_pledge_api_ErrEnd {H : Type} : DataW H := .iface "*errors.errorString" (.ptr (.agg [.lit (.string [105, 116, 32, 101, 110, 100, 115, 32, 116, 111, 111, 32, 101, 97, 114, 108, 121])]))
def laid_pledge_api_ErrShape {H : Type} : DataW H := .iface "*errors.errorString" (.ptr (.agg [.lit (.string [110, 111, 116, 32, 97, 115, 32, 105, 116, 32, 104, 97, 115, 32, 116, 111, 32, 98, 101])]))
def laid_pledge_api_ErrRange {H : Type} : DataW H := .iface "*errors.errorString" (.ptr (.agg [.lit (.string [97, 32, 110, 117, 109, 98, 101, 114, 32, 111, 117, 116, 32, 111, 102, 32, 105, 116, 115, 32, 114, 97, 110, 103, 101])]))
def laid_pledge_api_ErrOver {H : Type} : DataW H := .iface "*errors.errorString" (.ptr (.agg [.lit (.string [116, 111, 111, 32, 103, 114, 101, 97, 116, 32, 97, 32, 110, 117, 109, 98, 101, 114])]))
def laid_pledge_api_ErrMany {H : Type} : DataW H := .iface "*errors.errorString" (.ptr (.agg [.lit (.string [116, 111, 111, 32, 109, 97, 110, 121])]))
def laid_pledge_api_ErrNone {H : Type} : DataW H := .iface "*errors.errorString" (.ptr (.agg [.lit (.string [116, 104, 101, 114, 101, 32, 105, 115, 32, 110, 111, 110, 101])]))
def laid_pledge_api_ErrThere {H : Type} : DataW H := .iface "*errors.errorString" (.ptr (.agg [.lit (.string [116, 104, 101, 114, 101, 32, 105, 115, 32, 111, 110, 101])]))
def laid_pledge_api_ErrFull {H : Type} : DataW H := .iface "*errors.errorString" (.ptr (.agg [.lit (.string [116, 104, 101, 114, 101, 32, 105, 115, 32, 110, 111, 32, 114, 111, 111, 109])]))
def laid_pledge_api_ErrCrash {H : Type} : DataW H := .iface "*errors.errorString" (.ptr (.agg [.lit (.string [105, 116, 32, 105, 115, 32, 100, 111, 119, 110])]))
def laid_pledge_api_ErrTwice {H : Type} : DataW H := .iface "*errors.errorString" (.ptr (.agg [.lit (.string [100, 111, 110, 101, 32, 97, 108, 114, 101, 97, 100, 121])]))
def laid_pledge_api_ErrKind {H : Type} : DataW H := .iface "*errors.errorString" (.ptr (.agg [.lit (.string [110, 111, 32, 115, 117, 99, 104, 32, 107, 105, 110, 100])]))
def laid_pledge_api_ErrBarred {H : Type} : DataW H := .iface "*errors.errorString" (.ptr (.agg [.lit (.string [110, 111, 116, 32, 101, 108, 105, 103, 105, 98, 108, 101])]))
def laid_pledge_api_ErrShort {H : Type} : DataW H := .iface "*errors.errorString" (.ptr (.agg [.lit (.string [110, 111, 116, 32, 101, 110, 111, 117, 103, 104, 32, 116, 104, 101, 114, 101])]))
def laid_pledge_api_ErrBreach {H : Type} : DataW H := .iface "*errors.errorString" (.ptr (.agg [.lit (.string [97, 32, 108, 105, 109, 105, 116, 32, 119, 111, 117, 108, 100, 32, 98, 101, 32, 98, 114, 111, 107, 101, 110])]))
def laid_pledge_api_ErrNeed {H : Type} : DataW H := .iface "*errors.errorString" (.ptr (.agg [.lit (.string [108, 101, 115, 115, 32, 116, 104, 97, 110, 32, 119, 104, 97, 116, 32, 105, 115, 32, 110, 101, 101, 100, 101, 100])]))
def laid_pledge_api_ErrBound {H : Type} : DataW H := .iface "*errors.errorString" (.ptr (.agg [.lit (.string [98, 111, 117, 110, 100, 32, 98, 121, 32, 97, 32, 99, 97, 108, 108])]))
def laid_pledge_api_ErrDay {H : Type} : DataW H := .iface "*errors.errorString" (.ptr (.agg [.lit (.string [110, 111, 116, 32, 111, 110, 32, 116, 104, 105, 115, 32, 100, 97, 121])]))
def laid_pledge_api_ErrWord {H : Type} : DataW H := .iface "*errors.errorString" (.ptr (.agg [.lit (.string [110, 111, 32, 115, 117, 99, 104, 32, 119, 111, 114, 100])]))
def laid_pledge_api_ErrNumber {H : Type} : DataW H := .iface "*errors.errorString" (.ptr (.agg [.lit (.string [110, 111, 116, 32, 97, 32, 110, 117, 109, 98, 101, 114])]))
def laid_pledge_api_ErrBudget {H : Type} : DataW H := .iface "*errors.errorString" (.ptr (.agg [.lit (.string [110, 111, 116, 32, 108, 111, 111, 107, 101, 100, 32, 97, 116, 32, 97, 108, 108])]))
def laid_pledge_api_ErrNothing {H : Type} : DataW H := .iface "*errors.errorString" (.ptr (.agg [.lit (.string [105, 116, 32, 99, 97, 110, 39, 116, 32, 98, 101, 32, 100, 111, 110, 101])]))

/-- 'pledgelaw5.DiskShapes': WHATEVER THE INPUT: true; the input reads as it did. -/
def diskShapesSpec : ChangeSpec := { name := "diskShapes", fn := fun _ => fun
  | [d1, d2] => { results := [.lit (.bool true)], args := [d1, d2] }
  | _ => none }
def diskShapesRow : OpenClaim := { program := "ytehacchacgfjlaadoor", sum := "adee98b6d482bac6d5f6664a71d049a8f7f04f9e061599a9cc3f9037e2d6a22a", func := "pledge/pledgelaw5.DiskShapes", spec := "diskShapes", unfollowed := true, recurses := true, named := ["pledge/api.ErrRange", "pledge/api.ErrCrash", "pledge/api.ErrFull", "pledge/api.ErrShape", "pledge/api.ErrEnd", "pledge/api.ErrOver", "pledge/api.ErrMany", "pledge/api.ErrNone", "pledge/api.ErrThere", "pledge/api.ErrTwice", "pledge/api.ErrKind", "pledge/api.ErrBarred", "pledge/api.ErrShort", "pledge/api.ErrBreach", "pledge/api.ErrNeed", "pledge/api.ErrBound", "pledge/api.ErrDay", "pledge/api.ErrWord", "pledge/api.ErrNumber", "pledge/api.ErrBudget", "pledge/api.ErrNothing"], plainKeys := false, apart := false, laid := [("pledge/api.ErrEnd", laid_pledge_api_ErrEnd), ("pledge/api.ErrShape", laid_pledge_api_ErrShape), ("pledge/api.ErrRange", laid_pledge_api_ErrRange), ("pledge/api.ErrOver", laid_pledge_api_ErrOver), ("pledge/api.ErrMany", laid_pledge_api_ErrMany), ("pledge/api.ErrNone", laid_pledge_api_ErrNone), ("pledge/api.ErrThere", laid_pledge_api_ErrThere), ("pledge/api.ErrFull", laid_pledge_api_ErrFull), ("pledge/api.ErrCrash", laid_pledge_api_ErrCrash), ("pledge/api.ErrTwice", laid_pledge_api_ErrTwice), ("pledge/api.ErrKind", laid_pledge_api_ErrKind), ("pledge/api.ErrBarred", laid_pledge_api_ErrBarred), ("pledge/api.ErrShort", laid_pledge_api_ErrShort), ("pledge/api.ErrBreach", laid_pledge_api_ErrBreach), ("pledge/api.ErrNeed", laid_pledge_api_ErrNeed), ("pledge/api.ErrBound", laid_pledge_api_ErrBound), ("pledge/api.ErrDay", laid_pledge_api_ErrDay), ("pledge/api.ErrWord", laid_pledge_api_ErrWord), ("pledge/api.ErrNumber", laid_pledge_api_ErrNumber), ("pledge/api.ErrBudget", laid_pledge_api_ErrBudget), ("pledge/api.ErrNothing", laid_pledge_api_ErrNothing)] }
def DiskShapesSaid : Prop := diskShapesRow.holds Tryd.pinned (OpenSpec.ofChange diskShapesSpec)

/-- ITS FALSE NEIGHBOUR: 'it returns false'. Refute it at one input. -/
def diskShapesWrong : ChangeSpec := { name := "diskShapes", fn := fun _ => fun
  | [d1, d2] => { results := [.lit (.bool false)], args := [d1, d2] }
  | _ => none }
def DiskShapesWrongFalsely : Prop := diskShapesRow.holds Tryd.pinned (OpenSpec.ofChange diskShapesWrong)

/-- 'pledgelaw5.DiskTears': WHATEVER THE INPUT: true; the input reads as it did. -/
def diskTearsSpec : ChangeSpec := { name := "diskTears", fn := fun _ => fun
  | [d1, d2, d3, d4] => { results := [.lit (.bool true)], args := [d1, d2, d3, d4] }
  | _ => none }
def diskTearsRow : OpenClaim := { program := "ytehacchacgfjlaadoor", sum := "adee98b6d482bac6d5f6664a71d049a8f7f04f9e061599a9cc3f9037e2d6a22a", func := "pledge/pledgelaw5.DiskTears", spec := "diskTears", unfollowed := true, recurses := true, named := ["pledge/api.ErrRange", "pledge/api.ErrCrash", "pledge/api.ErrFull", "pledge/api.ErrShape"], plainKeys := false, apart := false, laid := [("pledge/api.ErrShape", laid_pledge_api_ErrShape), ("pledge/api.ErrRange", laid_pledge_api_ErrRange), ("pledge/api.ErrFull", laid_pledge_api_ErrFull), ("pledge/api.ErrCrash", laid_pledge_api_ErrCrash)] }
def DiskTearsSaid : Prop := diskTearsRow.holds Tryd.pinned (OpenSpec.ofChange diskTearsSpec)

/-- ITS FALSE NEIGHBOUR: 'it returns false'. Refute it at one input. -/
def diskTearsWrong : ChangeSpec := { name := "diskTears", fn := fun _ => fun
  | [d1, d2, d3, d4] => { results := [.lit (.bool false)], args := [d1, d2, d3, d4] }
  | _ => none }
def DiskTearsWrongFalsely : Prop := diskTearsRow.holds Tryd.pinned (OpenSpec.ofChange diskTearsWrong)

/-- 'pledgelaw5.DiskArms': WHATEVER THE INPUT: true; the input reads as it did. -/
def diskArmsSpec : ChangeSpec := { name := "diskArms", fn := fun _ => fun
  | [d1, d2] => { results := [.lit (.bool true)], args := [d1, d2] }
  | _ => none }
def diskArmsRow : OpenClaim := { program := "ytehacchacgfjlaadoor", sum := "adee98b6d482bac6d5f6664a71d049a8f7f04f9e061599a9cc3f9037e2d6a22a", func := "pledge/pledgelaw5.DiskArms", spec := "diskArms", unfollowed := true, recurses := true, named := ["pledge/api.ErrRange", "pledge/api.ErrCrash", "pledge/api.ErrFull", "pledge/api.ErrShape", "pledge/api.ErrEnd", "pledge/api.ErrOver", "pledge/api.ErrMany", "pledge/api.ErrNone", "pledge/api.ErrThere", "pledge/api.ErrTwice", "pledge/api.ErrKind", "pledge/api.ErrBarred", "pledge/api.ErrShort", "pledge/api.ErrBreach", "pledge/api.ErrNeed", "pledge/api.ErrBound", "pledge/api.ErrDay", "pledge/api.ErrWord", "pledge/api.ErrNumber", "pledge/api.ErrBudget", "pledge/api.ErrNothing"], plainKeys := false, apart := false, laid := [("pledge/api.ErrEnd", laid_pledge_api_ErrEnd), ("pledge/api.ErrShape", laid_pledge_api_ErrShape), ("pledge/api.ErrRange", laid_pledge_api_ErrRange), ("pledge/api.ErrOver", laid_pledge_api_ErrOver), ("pledge/api.ErrMany", laid_pledge_api_ErrMany), ("pledge/api.ErrNone", laid_pledge_api_ErrNone), ("pledge/api.ErrThere", laid_pledge_api_ErrThere), ("pledge/api.ErrFull", laid_pledge_api_ErrFull), ("pledge/api.ErrCrash", laid_pledge_api_ErrCrash), ("pledge/api.ErrTwice", laid_pledge_api_ErrTwice), ("pledge/api.ErrKind", laid_pledge_api_ErrKind), ("pledge/api.ErrBarred", laid_pledge_api_ErrBarred), ("pledge/api.ErrShort", laid_pledge_api_ErrShort), ("pledge/api.ErrBreach", laid_pledge_api_ErrBreach), ("pledge/api.ErrNeed", laid_pledge_api_ErrNeed), ("pledge/api.ErrBound", laid_pledge_api_ErrBound), ("pledge/api.ErrDay", laid_pledge_api_ErrDay), ("pledge/api.ErrWord", laid_pledge_api_ErrWord), ("pledge/api.ErrNumber", laid_pledge_api_ErrNumber), ("pledge/api.ErrBudget", laid_pledge_api_ErrBudget), ("pledge/api.ErrNothing", laid_pledge_api_ErrNothing)] }
def DiskArmsSaid : Prop := diskArmsRow.holds Tryd.pinned (OpenSpec.ofChange diskArmsSpec)

/-- ITS FALSE NEIGHBOUR: 'it returns false'. Refute it at one input. -/
def diskArmsWrong : ChangeSpec := { name := "diskArms", fn := fun _ => fun
  | [d1, d2] => { results := [.lit (.bool false)], args := [d1, d2] }
  | _ => none }
def DiskArmsWrongFalsely : Prop := diskArmsRow.holds Tryd.pinned (OpenSpec.ofChange diskArmsWrong)

/-- 'pledgelaw5.DiskKeeps': WHATEVER THE INPUT: true; the input reads as it did. -/
def diskKeepsSpec : ChangeSpec := { name := "diskKeeps", fn := fun _ => fun
  | [d1, d2, d3] => { results := [.lit (.bool true)], args := [d1, d2, d3] }
  | _ => none }
def diskKeepsRow : OpenClaim := { program := "ytehacchacgfjlaadoor", sum := "adee98b6d482bac6d5f6664a71d049a8f7f04f9e061599a9cc3f9037e2d6a22a", func := "pledge/pledgelaw5.DiskKeeps", spec := "diskKeeps", inPlace := ["maps.clone"], unfollowed := true, recurses := true, named := ["pledge/api.ErrRange", "pledge/api.ErrCrash", "pledge/api.ErrFull", "pledge/api.ErrShape"], plainKeys := false, apart := false, laid := [("pledge/api.ErrShape", laid_pledge_api_ErrShape), ("pledge/api.ErrRange", laid_pledge_api_ErrRange), ("pledge/api.ErrFull", laid_pledge_api_ErrFull), ("pledge/api.ErrCrash", laid_pledge_api_ErrCrash)] }
def DiskKeepsSaid : Prop := diskKeepsRow.holds Tryd.pinned (OpenSpec.ofChange diskKeepsSpec)

/-- ITS FALSE NEIGHBOUR: 'it returns false'. Refute it at one input. -/
def diskKeepsWrong : ChangeSpec := { name := "diskKeeps", fn := fun _ => fun
  | [d1, d2, d3] => { results := [.lit (.bool false)], args := [d1, d2, d3] }
  | _ => none }
def DiskKeepsWrongFalsely : Prop := diskKeepsRow.holds Tryd.pinned (OpenSpec.ofChange diskKeepsWrong)

/-- 'pledgelaw5.DiskTwins': WHATEVER THE INPUT: true; the input reads as it did. -/
def diskTwinsSpec : ChangeSpec := { name := "diskTwins", fn := fun _ => fun
  | [d1, d2] => { results := [.lit (.bool true)], args := [d1, d2] }
  | _ => none }
def diskTwinsRow : OpenClaim := { program := "ytehacchacgfjlaadoor", sum := "adee98b6d482bac6d5f6664a71d049a8f7f04f9e061599a9cc3f9037e2d6a22a", func := "pledge/pledgelaw5.DiskTwins", spec := "diskTwins", inPlace := ["maps.clone"], unfollowed := true, recurses := true, named := ["pledge/api.ErrRange", "pledge/api.ErrCrash", "pledge/api.ErrFull", "pledge/api.ErrShape"], plainKeys := false, apart := false, laid := [("pledge/api.ErrShape", laid_pledge_api_ErrShape), ("pledge/api.ErrRange", laid_pledge_api_ErrRange), ("pledge/api.ErrFull", laid_pledge_api_ErrFull), ("pledge/api.ErrCrash", laid_pledge_api_ErrCrash)] }
def DiskTwinsSaid : Prop := diskTwinsRow.holds Tryd.pinned (OpenSpec.ofChange diskTwinsSpec)

/-- ITS FALSE NEIGHBOUR: 'it returns false'. Refute it at one input. -/
def diskTwinsWrong : ChangeSpec := { name := "diskTwins", fn := fun _ => fun
  | [d1, d2] => { results := [.lit (.bool false)], args := [d1, d2] }
  | _ => none }
def DiskTwinsWrongFalsely : Prop := diskTwinsRow.holds Tryd.pinned (OpenSpec.ofChange diskTwinsWrong)

/-- 'pledgelaw6.RootBytes': WHATEVER THE INPUT: true; the input reads as it did. -/
def rootBytesSpec : ChangeSpec := { name := "rootBytes", fn := fun _ => fun
  | [d1, d2, d3] => { results := [.lit (.bool true)], args := [d1, d2, d3] }
  | _ => none }
def rootBytesRow : OpenClaim := { program := "ytehacchacgfjlaadoor", sum := "adee98b6d482bac6d5f6664a71d049a8f7f04f9e061599a9cc3f9037e2d6a22a", func := "pledge/pledgelaw6.RootBytes", spec := "rootBytes", unfollowed := true, recurses := true, named := ["pledge/api.ErrRange", "pledge/api.ErrCrash", "pledge/api.ErrFull", "pledge/api.ErrMany", "pledge/api.ErrShape", "pledge/api.ErrEnd", "pledge/api.ErrOver", "pledge/api.ErrNone", "pledge/api.ErrThere", "pledge/api.ErrTwice", "pledge/api.ErrKind", "pledge/api.ErrBarred", "pledge/api.ErrShort", "pledge/api.ErrBreach", "pledge/api.ErrNeed", "pledge/api.ErrBound", "pledge/api.ErrDay", "pledge/api.ErrWord", "pledge/api.ErrNumber", "pledge/api.ErrBudget", "pledge/api.ErrNothing"], plainKeys := false, apart := false, laid := [("pledge/api.ErrEnd", laid_pledge_api_ErrEnd), ("pledge/api.ErrShape", laid_pledge_api_ErrShape), ("pledge/api.ErrRange", laid_pledge_api_ErrRange), ("pledge/api.ErrOver", laid_pledge_api_ErrOver), ("pledge/api.ErrMany", laid_pledge_api_ErrMany), ("pledge/api.ErrNone", laid_pledge_api_ErrNone), ("pledge/api.ErrThere", laid_pledge_api_ErrThere), ("pledge/api.ErrFull", laid_pledge_api_ErrFull), ("pledge/api.ErrCrash", laid_pledge_api_ErrCrash), ("pledge/api.ErrTwice", laid_pledge_api_ErrTwice), ("pledge/api.ErrKind", laid_pledge_api_ErrKind), ("pledge/api.ErrBarred", laid_pledge_api_ErrBarred), ("pledge/api.ErrShort", laid_pledge_api_ErrShort), ("pledge/api.ErrBreach", laid_pledge_api_ErrBreach), ("pledge/api.ErrNeed", laid_pledge_api_ErrNeed), ("pledge/api.ErrBound", laid_pledge_api_ErrBound), ("pledge/api.ErrDay", laid_pledge_api_ErrDay), ("pledge/api.ErrWord", laid_pledge_api_ErrWord), ("pledge/api.ErrNumber", laid_pledge_api_ErrNumber), ("pledge/api.ErrBudget", laid_pledge_api_ErrBudget), ("pledge/api.ErrNothing", laid_pledge_api_ErrNothing)] }
def RootBytesSaid : Prop := rootBytesRow.holds Tryd.pinned (OpenSpec.ofChange rootBytesSpec)

/-- ITS FALSE NEIGHBOUR: 'it returns false'. Refute it at one input. -/
def rootBytesWrong : ChangeSpec := { name := "rootBytes", fn := fun _ => fun
  | [d1, d2, d3] => { results := [.lit (.bool false)], args := [d1, d2, d3] }
  | _ => none }
def RootBytesWrongFalsely : Prop := rootBytesRow.holds Tryd.pinned (OpenSpec.ofChange rootBytesWrong)

/-- 'pledgelaw6.RootTears': WHATEVER THE INPUT: true; the input reads as it did. -/
def rootTearsSpec : ChangeSpec := { name := "rootTears", fn := fun _ => fun
  | [d1, d2, d3, d4, d5, d6] => { results := [.lit (.bool true)], args := [d1, d2, d3, d4, d5, d6] }
  | _ => none }
def rootTearsRow : OpenClaim := { program := "ytehacchacgfjlaadoor", sum := "adee98b6d482bac6d5f6664a71d049a8f7f04f9e061599a9cc3f9037e2d6a22a", func := "pledge/pledgelaw6.RootTears", spec := "rootTears", unfollowed := true, recurses := true, named := ["pledge/api.ErrRange", "pledge/api.ErrCrash", "pledge/api.ErrFull", "pledge/api.ErrMany", "pledge/api.ErrShape"], plainKeys := false, apart := false, laid := [("pledge/api.ErrShape", laid_pledge_api_ErrShape), ("pledge/api.ErrRange", laid_pledge_api_ErrRange), ("pledge/api.ErrMany", laid_pledge_api_ErrMany), ("pledge/api.ErrFull", laid_pledge_api_ErrFull), ("pledge/api.ErrCrash", laid_pledge_api_ErrCrash)] }
def RootTearsSaid : Prop := rootTearsRow.holds Tryd.pinned (OpenSpec.ofChange rootTearsSpec)

/-- ITS FALSE NEIGHBOUR: 'it returns false'. Refute it at one input. -/
def rootTearsWrong : ChangeSpec := { name := "rootTears", fn := fun _ => fun
  | [d1, d2, d3, d4, d5, d6] => { results := [.lit (.bool false)], args := [d1, d2, d3, d4, d5, d6] }
  | _ => none }
def RootTearsWrongFalsely : Prop := rootTearsRow.holds Tryd.pinned (OpenSpec.ofChange rootTearsWrong)

/-- 'pledgelaw6.RootGreater': WHATEVER THE INPUT: true; the input reads as it did. -/
def rootGreaterSpec : ChangeSpec := { name := "rootGreater", fn := fun _ => fun
  | [d1, d2, d3, d4] => { results := [.lit (.bool true)], args := [d1, d2, d3, d4] }
  | _ => none }
def rootGreaterRow : OpenClaim := { program := "ytehacchacgfjlaadoor", sum := "adee98b6d482bac6d5f6664a71d049a8f7f04f9e061599a9cc3f9037e2d6a22a", func := "pledge/pledgelaw6.RootGreater", spec := "rootGreater", unfollowed := true, recurses := true, named := ["pledge/api.ErrRange", "pledge/api.ErrCrash", "pledge/api.ErrFull", "pledge/api.ErrMany", "pledge/api.ErrShape", "pledge/api.ErrEnd", "pledge/api.ErrOver", "pledge/api.ErrNone", "pledge/api.ErrThere", "pledge/api.ErrTwice", "pledge/api.ErrKind", "pledge/api.ErrBarred", "pledge/api.ErrShort", "pledge/api.ErrBreach", "pledge/api.ErrNeed", "pledge/api.ErrBound", "pledge/api.ErrDay", "pledge/api.ErrWord", "pledge/api.ErrNumber", "pledge/api.ErrBudget", "pledge/api.ErrNothing"], plainKeys := false, apart := false, laid := [("pledge/api.ErrEnd", laid_pledge_api_ErrEnd), ("pledge/api.ErrShape", laid_pledge_api_ErrShape), ("pledge/api.ErrRange", laid_pledge_api_ErrRange), ("pledge/api.ErrOver", laid_pledge_api_ErrOver), ("pledge/api.ErrMany", laid_pledge_api_ErrMany), ("pledge/api.ErrNone", laid_pledge_api_ErrNone), ("pledge/api.ErrThere", laid_pledge_api_ErrThere), ("pledge/api.ErrFull", laid_pledge_api_ErrFull), ("pledge/api.ErrCrash", laid_pledge_api_ErrCrash), ("pledge/api.ErrTwice", laid_pledge_api_ErrTwice), ("pledge/api.ErrKind", laid_pledge_api_ErrKind), ("pledge/api.ErrBarred", laid_pledge_api_ErrBarred), ("pledge/api.ErrShort", laid_pledge_api_ErrShort), ("pledge/api.ErrBreach", laid_pledge_api_ErrBreach), ("pledge/api.ErrNeed", laid_pledge_api_ErrNeed), ("pledge/api.ErrBound", laid_pledge_api_ErrBound), ("pledge/api.ErrDay", laid_pledge_api_ErrDay), ("pledge/api.ErrWord", laid_pledge_api_ErrWord), ("pledge/api.ErrNumber", laid_pledge_api_ErrNumber), ("pledge/api.ErrBudget", laid_pledge_api_ErrBudget), ("pledge/api.ErrNothing", laid_pledge_api_ErrNothing)] }
def RootGreaterSaid : Prop := rootGreaterRow.holds Tryd.pinned (OpenSpec.ofChange rootGreaterSpec)

/-- ITS FALSE NEIGHBOUR: 'it returns false'. Refute it at one input. -/
def rootGreaterWrong : ChangeSpec := { name := "rootGreater", fn := fun _ => fun
  | [d1, d2, d3, d4] => { results := [.lit (.bool false)], args := [d1, d2, d3, d4] }
  | _ => none }
def RootGreaterWrongFalsely : Prop := rootGreaterRow.holds Tryd.pinned (OpenSpec.ofChange rootGreaterWrong)

/-- 'pledgelaw6.RootSaves': WHATEVER THE INPUT: true; the input reads as it did. -/
def rootSavesSpec : ChangeSpec := { name := "rootSaves", fn := fun _ => fun
  | [d1, d2, d3, d4] => { results := [.lit (.bool true)], args := [d1, d2, d3, d4] }
  | _ => none }
def rootSavesRow : OpenClaim := { program := "ytehacchacgfjlaadoor", sum := "adee98b6d482bac6d5f6664a71d049a8f7f04f9e061599a9cc3f9037e2d6a22a", func := "pledge/pledgelaw6.RootSaves", spec := "rootSaves", unfollowed := true, recurses := true, named := ["pledge/api.ErrRange", "pledge/api.ErrCrash", "pledge/api.ErrFull", "pledge/api.ErrMany", "pledge/api.ErrShape", "pledge/api.ErrEnd", "pledge/api.ErrOver", "pledge/api.ErrNone", "pledge/api.ErrThere", "pledge/api.ErrTwice", "pledge/api.ErrKind", "pledge/api.ErrBarred", "pledge/api.ErrShort", "pledge/api.ErrBreach", "pledge/api.ErrNeed", "pledge/api.ErrBound", "pledge/api.ErrDay", "pledge/api.ErrWord", "pledge/api.ErrNumber", "pledge/api.ErrBudget", "pledge/api.ErrNothing"], plainKeys := false, apart := false, laid := [("pledge/api.ErrEnd", laid_pledge_api_ErrEnd), ("pledge/api.ErrShape", laid_pledge_api_ErrShape), ("pledge/api.ErrRange", laid_pledge_api_ErrRange), ("pledge/api.ErrOver", laid_pledge_api_ErrOver), ("pledge/api.ErrMany", laid_pledge_api_ErrMany), ("pledge/api.ErrNone", laid_pledge_api_ErrNone), ("pledge/api.ErrThere", laid_pledge_api_ErrThere), ("pledge/api.ErrFull", laid_pledge_api_ErrFull), ("pledge/api.ErrCrash", laid_pledge_api_ErrCrash), ("pledge/api.ErrTwice", laid_pledge_api_ErrTwice), ("pledge/api.ErrKind", laid_pledge_api_ErrKind), ("pledge/api.ErrBarred", laid_pledge_api_ErrBarred), ("pledge/api.ErrShort", laid_pledge_api_ErrShort), ("pledge/api.ErrBreach", laid_pledge_api_ErrBreach), ("pledge/api.ErrNeed", laid_pledge_api_ErrNeed), ("pledge/api.ErrBound", laid_pledge_api_ErrBound), ("pledge/api.ErrDay", laid_pledge_api_ErrDay), ("pledge/api.ErrWord", laid_pledge_api_ErrWord), ("pledge/api.ErrNumber", laid_pledge_api_ErrNumber), ("pledge/api.ErrBudget", laid_pledge_api_ErrBudget), ("pledge/api.ErrNothing", laid_pledge_api_ErrNothing)] }
def RootSavesSaid : Prop := rootSavesRow.holds Tryd.pinned (OpenSpec.ofChange rootSavesSpec)

/-- ITS FALSE NEIGHBOUR: 'it returns false'. Refute it at one input. -/
def rootSavesWrong : ChangeSpec := { name := "rootSaves", fn := fun _ => fun
  | [d1, d2, d3, d4] => { results := [.lit (.bool false)], args := [d1, d2, d3, d4] }
  | _ => none }
def RootSavesWrongFalsely : Prop := rootSavesRow.holds Tryd.pinned (OpenSpec.ofChange rootSavesWrong)

/-- 'pledgelaw12.CutSteps': WHATEVER THE INPUT: true; the input reads as it did. -/
def cutStepsSpec : ChangeSpec := { name := "cutSteps", fn := fun _ => fun
  | [d1, d2, d3, d4, d5] => { results := [.lit (.bool true)], args := [d1, d2, d3, d4, d5] }
  | _ => none }
def cutStepsRow : OpenClaim := { program := "ytehacchacgfjlaadoor", sum := "adee98b6d482bac6d5f6664a71d049a8f7f04f9e061599a9cc3f9037e2d6a22a", func := "pledge/pledgelaw12.CutSteps", spec := "cutSteps", unfollowed := true, recurses := true, named := ["pledge/api.ErrRange"], plainKeys := false, apart := false, laid := [("pledge/api.ErrRange", laid_pledge_api_ErrRange)] }
def CutStepsSaid : Prop := cutStepsRow.holds Tryd.pinned (OpenSpec.ofChange cutStepsSpec)

/-- ITS FALSE NEIGHBOUR: 'it returns false'. Refute it at one input. -/
def cutStepsWrong : ChangeSpec := { name := "cutSteps", fn := fun _ => fun
  | [d1, d2, d3, d4, d5] => { results := [.lit (.bool false)], args := [d1, d2, d3, d4, d5] }
  | _ => none }
def CutStepsWrongFalsely : Prop := cutStepsRow.holds Tryd.pinned (OpenSpec.ofChange cutStepsWrong)

/-- 'pledgelaw12.CutPlays': WHATEVER THE INPUT: true; the input reads as it did. -/
def cutPlaysSpec : ChangeSpec := { name := "cutPlays", fn := fun _ => fun
  | [d1, d2, d3, d4, d5] => { results := [.lit (.bool true)], args := [d1, d2, d3, d4, d5] }
  | _ => none }
def cutPlaysRow : OpenClaim := { program := "ytehacchacgfjlaadoor", sum := "adee98b6d482bac6d5f6664a71d049a8f7f04f9e061599a9cc3f9037e2d6a22a", func := "pledge/pledgelaw12.CutPlays", spec := "cutPlays", unfollowed := true, recurses := true, named := ["pledge/api.ErrRange", "pledge/api.ErrEnd", "pledge/api.ErrShape", "pledge/api.ErrOver", "pledge/api.ErrMany", "pledge/api.ErrNone", "pledge/api.ErrThere", "pledge/api.ErrFull", "pledge/api.ErrCrash", "pledge/api.ErrTwice", "pledge/api.ErrKind", "pledge/api.ErrBarred", "pledge/api.ErrShort", "pledge/api.ErrBreach", "pledge/api.ErrNeed", "pledge/api.ErrBound", "pledge/api.ErrDay", "pledge/api.ErrWord", "pledge/api.ErrNumber", "pledge/api.ErrBudget", "pledge/api.ErrNothing"], plainKeys := false, apart := false, laid := [("pledge/api.ErrEnd", laid_pledge_api_ErrEnd), ("pledge/api.ErrShape", laid_pledge_api_ErrShape), ("pledge/api.ErrRange", laid_pledge_api_ErrRange), ("pledge/api.ErrOver", laid_pledge_api_ErrOver), ("pledge/api.ErrMany", laid_pledge_api_ErrMany), ("pledge/api.ErrNone", laid_pledge_api_ErrNone), ("pledge/api.ErrThere", laid_pledge_api_ErrThere), ("pledge/api.ErrFull", laid_pledge_api_ErrFull), ("pledge/api.ErrCrash", laid_pledge_api_ErrCrash), ("pledge/api.ErrTwice", laid_pledge_api_ErrTwice), ("pledge/api.ErrKind", laid_pledge_api_ErrKind), ("pledge/api.ErrBarred", laid_pledge_api_ErrBarred), ("pledge/api.ErrShort", laid_pledge_api_ErrShort), ("pledge/api.ErrBreach", laid_pledge_api_ErrBreach), ("pledge/api.ErrNeed", laid_pledge_api_ErrNeed), ("pledge/api.ErrBound", laid_pledge_api_ErrBound), ("pledge/api.ErrDay", laid_pledge_api_ErrDay), ("pledge/api.ErrWord", laid_pledge_api_ErrWord), ("pledge/api.ErrNumber", laid_pledge_api_ErrNumber), ("pledge/api.ErrBudget", laid_pledge_api_ErrBudget), ("pledge/api.ErrNothing", laid_pledge_api_ErrNothing)] }
def CutPlaysSaid : Prop := cutPlaysRow.holds Tryd.pinned (OpenSpec.ofChange cutPlaysSpec)

/-- ITS FALSE NEIGHBOUR: 'it returns false'. Refute it at one input. -/
def cutPlaysWrong : ChangeSpec := { name := "cutPlays", fn := fun _ => fun
  | [d1, d2, d3, d4, d5] => { results := [.lit (.bool false)], args := [d1, d2, d3, d4, d5] }
  | _ => none }
def CutPlaysWrongFalsely : Prop := cutPlaysRow.holds Tryd.pinned (OpenSpec.ofChange cutPlaysWrong)

/-- 'pledgelaw22.StressPlays': WHATEVER THE INPUT: true; the input reads as it did. -/
def stressPlaysSpec : ChangeSpec := { name := "stressPlays", fn := fun _ => fun
  | [d1, d2, d3, d4] => { results := [.lit (.bool true)], args := [d1, d2, d3, d4] }
  | _ => none }
def stressPlaysRow : OpenClaim := { program := "ytehacchacgfjlaadoor", sum := "adee98b6d482bac6d5f6664a71d049a8f7f04f9e061599a9cc3f9037e2d6a22a", func := "pledge/pledgelaw22.StressPlays", spec := "stressPlays", unfollowed := true, recurses := true, named := ["pledge/api.ErrMany", "pledge/api.ErrRange", "pledge/api.ErrOver", "pledge/api.ErrEnd", "pledge/api.ErrShape", "pledge/api.ErrNone", "pledge/api.ErrThere", "pledge/api.ErrFull", "pledge/api.ErrCrash", "pledge/api.ErrTwice", "pledge/api.ErrKind", "pledge/api.ErrBarred", "pledge/api.ErrShort", "pledge/api.ErrBreach", "pledge/api.ErrNeed", "pledge/api.ErrBound", "pledge/api.ErrDay", "pledge/api.ErrWord", "pledge/api.ErrNumber", "pledge/api.ErrBudget", "pledge/api.ErrNothing"], plainKeys := false, apart := false, laid := [("pledge/api.ErrEnd", laid_pledge_api_ErrEnd), ("pledge/api.ErrShape", laid_pledge_api_ErrShape), ("pledge/api.ErrRange", laid_pledge_api_ErrRange), ("pledge/api.ErrOver", laid_pledge_api_ErrOver), ("pledge/api.ErrMany", laid_pledge_api_ErrMany), ("pledge/api.ErrNone", laid_pledge_api_ErrNone), ("pledge/api.ErrThere", laid_pledge_api_ErrThere), ("pledge/api.ErrFull", laid_pledge_api_ErrFull), ("pledge/api.ErrCrash", laid_pledge_api_ErrCrash), ("pledge/api.ErrTwice", laid_pledge_api_ErrTwice), ("pledge/api.ErrKind", laid_pledge_api_ErrKind), ("pledge/api.ErrBarred", laid_pledge_api_ErrBarred), ("pledge/api.ErrShort", laid_pledge_api_ErrShort), ("pledge/api.ErrBreach", laid_pledge_api_ErrBreach), ("pledge/api.ErrNeed", laid_pledge_api_ErrNeed), ("pledge/api.ErrBound", laid_pledge_api_ErrBound), ("pledge/api.ErrDay", laid_pledge_api_ErrDay), ("pledge/api.ErrWord", laid_pledge_api_ErrWord), ("pledge/api.ErrNumber", laid_pledge_api_ErrNumber), ("pledge/api.ErrBudget", laid_pledge_api_ErrBudget), ("pledge/api.ErrNothing", laid_pledge_api_ErrNothing)] }
def StressPlaysSaid : Prop := stressPlaysRow.holds Tryd.pinned (OpenSpec.ofChange stressPlaysSpec)

/-- ITS FALSE NEIGHBOUR: 'it returns false'. Refute it at one input. -/
def stressPlaysWrong : ChangeSpec := { name := "stressPlays", fn := fun _ => fun
  | [d1, d2, d3, d4] => { results := [.lit (.bool false)], args := [d1, d2, d3, d4] }
  | _ => none }
def StressPlaysWrongFalsely : Prop := stressPlaysRow.holds Tryd.pinned (OpenSpec.ofChange stressPlaysWrong)

/- THE SECOND FORM. 'bulk': how many values and letters a reading holds, each counted each time it is reached (what is shared counts as often as it is met; a slice's spare places count too). A statement '..UptoSaid' is the law's where the arguments, and the package variables that the reading takes, are together of bulk at most 1048576: NARROWER than '..Said'. Prove '..Said' where nothing that the law and all that it calls make is longer than what came in: it says more and counts as full. Else prove '..UptoSaid'. A law counts once. -/
mutual
def uptoBulk {H : Type} : DataW H → Nat
  | .lit (.string bytes) => bytes.length + 1
  | .lit _ => 1
  | .nil => 1
  | .ptr d => uptoBulk d + 1
  | .slice elems spare => uptoBulkAll elems + uptoBulkAll spare + 1
  | .agg parts => uptoBulkAll parts + 1
  | .iface _ d => uptoBulk d + 1
  | .map entries => uptoBulkEntries entries + 1
  | .held _ => 1
def uptoBulkAll {H : Type} : List (DataW H) → Nat
  | [] => 0
  | d :: r => uptoBulk d + uptoBulkAll r
def uptoBulkEntries {H : Type} : List (Lit × DataW H) → Nat
  | [] => 0
  | x :: r => uptoBulkEntry x + uptoBulkEntries r
def uptoBulkEntry {H : Type} : Lit × DataW H → Nat
  | (.string bytes, d) => bytes.length + uptoBulk d + 1
  | (_, d) => uptoBulk d + 1
 end
def uptoSmall : (H : Type) → List (DataW H) → Bool := fun _ ds => decide (uptoBulkAll ds ≤ 1048576)
def OpenSpec.upto (s : _root_.Go.ChangeSpec) : _root_.Go.OpenSpec := { _root_.Go.OpenSpec.ofChange s with cond := some uptoSmall }

/-- 'pledgelaw5.DiskShapes', WHERE WHAT IT READS IS OF BULK AT MOST 1048576: true; the input reads as it did. -/
def diskShapesUptoRow : OpenClaim := { program := "ytehacchacgfjlaadoor", sum := "adee98b6d482bac6d5f6664a71d049a8f7f04f9e061599a9cc3f9037e2d6a22a", func := "pledge/pledgelaw5.DiskShapes", spec := "diskShapes", unfollowed := true, recurses := true, named := ["pledge/api.ErrRange", "pledge/api.ErrCrash", "pledge/api.ErrFull", "pledge/api.ErrShape", "pledge/api.ErrEnd", "pledge/api.ErrOver", "pledge/api.ErrMany", "pledge/api.ErrNone", "pledge/api.ErrThere", "pledge/api.ErrTwice", "pledge/api.ErrKind", "pledge/api.ErrBarred", "pledge/api.ErrShort", "pledge/api.ErrBreach", "pledge/api.ErrNeed", "pledge/api.ErrBound", "pledge/api.ErrDay", "pledge/api.ErrWord", "pledge/api.ErrNumber", "pledge/api.ErrBudget", "pledge/api.ErrNothing"], plainKeys := false, apart := false, laid := [("pledge/api.ErrEnd", laid_pledge_api_ErrEnd), ("pledge/api.ErrShape", laid_pledge_api_ErrShape), ("pledge/api.ErrRange", laid_pledge_api_ErrRange), ("pledge/api.ErrOver", laid_pledge_api_ErrOver), ("pledge/api.ErrMany", laid_pledge_api_ErrMany), ("pledge/api.ErrNone", laid_pledge_api_ErrNone), ("pledge/api.ErrThere", laid_pledge_api_ErrThere), ("pledge/api.ErrFull", laid_pledge_api_ErrFull), ("pledge/api.ErrCrash", laid_pledge_api_ErrCrash), ("pledge/api.ErrTwice", laid_pledge_api_ErrTwice), ("pledge/api.ErrKind", laid_pledge_api_ErrKind), ("pledge/api.ErrBarred", laid_pledge_api_ErrBarred), ("pledge/api.ErrShort", laid_pledge_api_ErrShort), ("pledge/api.ErrBreach", laid_pledge_api_ErrBreach), ("pledge/api.ErrNeed", laid_pledge_api_ErrNeed), ("pledge/api.ErrBound", laid_pledge_api_ErrBound), ("pledge/api.ErrDay", laid_pledge_api_ErrDay), ("pledge/api.ErrWord", laid_pledge_api_ErrWord), ("pledge/api.ErrNumber", laid_pledge_api_ErrNumber), ("pledge/api.ErrBudget", laid_pledge_api_ErrBudget), ("pledge/api.ErrNothing", laid_pledge_api_ErrNothing)], narrowed := true }
def DiskShapesUptoSaid : Prop := diskShapesUptoRow.holds Tryd.pinned (OpenSpec.upto diskShapesSpec)

/-- 'pledgelaw5.DiskTears', WHERE WHAT IT READS IS OF BULK AT MOST 1048576: true; the input reads as it did. -/
def diskTearsUptoRow : OpenClaim := { program := "ytehacchacgfjlaadoor", sum := "adee98b6d482bac6d5f6664a71d049a8f7f04f9e061599a9cc3f9037e2d6a22a", func := "pledge/pledgelaw5.DiskTears", spec := "diskTears", unfollowed := true, recurses := true, named := ["pledge/api.ErrRange", "pledge/api.ErrCrash", "pledge/api.ErrFull", "pledge/api.ErrShape"], plainKeys := false, apart := false, laid := [("pledge/api.ErrShape", laid_pledge_api_ErrShape), ("pledge/api.ErrRange", laid_pledge_api_ErrRange), ("pledge/api.ErrFull", laid_pledge_api_ErrFull), ("pledge/api.ErrCrash", laid_pledge_api_ErrCrash)], narrowed := true }
def DiskTearsUptoSaid : Prop := diskTearsUptoRow.holds Tryd.pinned (OpenSpec.upto diskTearsSpec)

/-- 'pledgelaw5.DiskArms', WHERE WHAT IT READS IS OF BULK AT MOST 1048576: true; the input reads as it did. -/
def diskArmsUptoRow : OpenClaim := { program := "ytehacchacgfjlaadoor", sum := "adee98b6d482bac6d5f6664a71d049a8f7f04f9e061599a9cc3f9037e2d6a22a", func := "pledge/pledgelaw5.DiskArms", spec := "diskArms", unfollowed := true, recurses := true, named := ["pledge/api.ErrRange", "pledge/api.ErrCrash", "pledge/api.ErrFull", "pledge/api.ErrShape", "pledge/api.ErrEnd", "pledge/api.ErrOver", "pledge/api.ErrMany", "pledge/api.ErrNone", "pledge/api.ErrThere", "pledge/api.ErrTwice", "pledge/api.ErrKind", "pledge/api.ErrBarred", "pledge/api.ErrShort", "pledge/api.ErrBreach", "pledge/api.ErrNeed", "pledge/api.ErrBound", "pledge/api.ErrDay", "pledge/api.ErrWord", "pledge/api.ErrNumber", "pledge/api.ErrBudget", "pledge/api.ErrNothing"], plainKeys := false, apart := false, laid := [("pledge/api.ErrEnd", laid_pledge_api_ErrEnd), ("pledge/api.ErrShape", laid_pledge_api_ErrShape), ("pledge/api.ErrRange", laid_pledge_api_ErrRange), ("pledge/api.ErrOver", laid_pledge_api_ErrOver), ("pledge/api.ErrMany", laid_pledge_api_ErrMany), ("pledge/api.ErrNone", laid_pledge_api_ErrNone), ("pledge/api.ErrThere", laid_pledge_api_ErrThere), ("pledge/api.ErrFull", laid_pledge_api_ErrFull), ("pledge/api.ErrCrash", laid_pledge_api_ErrCrash), ("pledge/api.ErrTwice", laid_pledge_api_ErrTwice), ("pledge/api.ErrKind", laid_pledge_api_ErrKind), ("pledge/api.ErrBarred", laid_pledge_api_ErrBarred), ("pledge/api.ErrShort", laid_pledge_api_ErrShort), ("pledge/api.ErrBreach", laid_pledge_api_ErrBreach), ("pledge/api.ErrNeed", laid_pledge_api_ErrNeed), ("pledge/api.ErrBound", laid_pledge_api_ErrBound), ("pledge/api.ErrDay", laid_pledge_api_ErrDay), ("pledge/api.ErrWord", laid_pledge_api_ErrWord), ("pledge/api.ErrNumber", laid_pledge_api_ErrNumber), ("pledge/api.ErrBudget", laid_pledge_api_ErrBudget), ("pledge/api.ErrNothing", laid_pledge_api_ErrNothing)], narrowed := true }
def DiskArmsUptoSaid : Prop := diskArmsUptoRow.holds Tryd.pinned (OpenSpec.upto diskArmsSpec)

/-- 'pledgelaw5.DiskKeeps', WHERE WHAT IT READS IS OF BULK AT MOST 1048576: true; the input reads as it did. -/
def diskKeepsUptoRow : OpenClaim := { program := "ytehacchacgfjlaadoor", sum := "adee98b6d482bac6d5f6664a71d049a8f7f04f9e061599a9cc3f9037e2d6a22a", func := "pledge/pledgelaw5.DiskKeeps", spec := "diskKeeps", inPlace := ["maps.clone"], unfollowed := true, recurses := true, named := ["pledge/api.ErrRange", "pledge/api.ErrCrash", "pledge/api.ErrFull", "pledge/api.ErrShape"], plainKeys := false, apart := false, laid := [("pledge/api.ErrShape", laid_pledge_api_ErrShape), ("pledge/api.ErrRange", laid_pledge_api_ErrRange), ("pledge/api.ErrFull", laid_pledge_api_ErrFull), ("pledge/api.ErrCrash", laid_pledge_api_ErrCrash)], narrowed := true }
def DiskKeepsUptoSaid : Prop := diskKeepsUptoRow.holds Tryd.pinned (OpenSpec.upto diskKeepsSpec)

/-- 'pledgelaw5.DiskTwins', WHERE WHAT IT READS IS OF BULK AT MOST 1048576: true; the input reads as it did. -/
def diskTwinsUptoRow : OpenClaim := { program := "ytehacchacgfjlaadoor", sum := "adee98b6d482bac6d5f6664a71d049a8f7f04f9e061599a9cc3f9037e2d6a22a", func := "pledge/pledgelaw5.DiskTwins", spec := "diskTwins", inPlace := ["maps.clone"], unfollowed := true, recurses := true, named := ["pledge/api.ErrRange", "pledge/api.ErrCrash", "pledge/api.ErrFull", "pledge/api.ErrShape"], plainKeys := false, apart := false, laid := [("pledge/api.ErrShape", laid_pledge_api_ErrShape), ("pledge/api.ErrRange", laid_pledge_api_ErrRange), ("pledge/api.ErrFull", laid_pledge_api_ErrFull), ("pledge/api.ErrCrash", laid_pledge_api_ErrCrash)], narrowed := true }
def DiskTwinsUptoSaid : Prop := diskTwinsUptoRow.holds Tryd.pinned (OpenSpec.upto diskTwinsSpec)

/-- 'pledgelaw6.RootBytes', WHERE WHAT IT READS IS OF BULK AT MOST 1048576: true; the input reads as it did. -/
def rootBytesUptoRow : OpenClaim := { program := "ytehacchacgfjlaadoor", sum := "adee98b6d482bac6d5f6664a71d049a8f7f04f9e061599a9cc3f9037e2d6a22a", func := "pledge/pledgelaw6.RootBytes", spec := "rootBytes", unfollowed := true, recurses := true, named := ["pledge/api.ErrRange", "pledge/api.ErrCrash", "pledge/api.ErrFull", "pledge/api.ErrMany", "pledge/api.ErrShape", "pledge/api.ErrEnd", "pledge/api.ErrOver", "pledge/api.ErrNone", "pledge/api.ErrThere", "pledge/api.ErrTwice", "pledge/api.ErrKind", "pledge/api.ErrBarred", "pledge/api.ErrShort", "pledge/api.ErrBreach", "pledge/api.ErrNeed", "pledge/api.ErrBound", "pledge/api.ErrDay", "pledge/api.ErrWord", "pledge/api.ErrNumber", "pledge/api.ErrBudget", "pledge/api.ErrNothing"], plainKeys := false, apart := false, laid := [("pledge/api.ErrEnd", laid_pledge_api_ErrEnd), ("pledge/api.ErrShape", laid_pledge_api_ErrShape), ("pledge/api.ErrRange", laid_pledge_api_ErrRange), ("pledge/api.ErrOver", laid_pledge_api_ErrOver), ("pledge/api.ErrMany", laid_pledge_api_ErrMany), ("pledge/api.ErrNone", laid_pledge_api_ErrNone), ("pledge/api.ErrThere", laid_pledge_api_ErrThere), ("pledge/api.ErrFull", laid_pledge_api_ErrFull), ("pledge/api.ErrCrash", laid_pledge_api_ErrCrash), ("pledge/api.ErrTwice", laid_pledge_api_ErrTwice), ("pledge/api.ErrKind", laid_pledge_api_ErrKind), ("pledge/api.ErrBarred", laid_pledge_api_ErrBarred), ("pledge/api.ErrShort", laid_pledge_api_ErrShort), ("pledge/api.ErrBreach", laid_pledge_api_ErrBreach), ("pledge/api.ErrNeed", laid_pledge_api_ErrNeed), ("pledge/api.ErrBound", laid_pledge_api_ErrBound), ("pledge/api.ErrDay", laid_pledge_api_ErrDay), ("pledge/api.ErrWord", laid_pledge_api_ErrWord), ("pledge/api.ErrNumber", laid_pledge_api_ErrNumber), ("pledge/api.ErrBudget", laid_pledge_api_ErrBudget), ("pledge/api.ErrNothing", laid_pledge_api_ErrNothing)], narrowed := true }
def RootBytesUptoSaid : Prop := rootBytesUptoRow.holds Tryd.pinned (OpenSpec.upto rootBytesSpec)

/-- 'pledgelaw6.RootTears', WHERE WHAT IT READS IS OF BULK AT MOST 1048576: true; the input reads as it did. -/
def rootTearsUptoRow : OpenClaim := { program := "ytehacchacgfjlaadoor", sum := "adee98b6d482bac6d5f6664a71d049a8f7f04f9e061599a9cc3f9037e2d6a22a", func := "pledge/pledgelaw6.RootTears", spec := "rootTears", unfollowed := true, recurses := true, named := ["pledge/api.ErrRange", "pledge/api.ErrCrash", "pledge/api.ErrFull", "pledge/api.ErrMany", "pledge/api.ErrShape"], plainKeys := false, apart := false, laid := [("pledge/api.ErrShape", laid_pledge_api_ErrShape), ("pledge/api.ErrRange", laid_pledge_api_ErrRange), ("pledge/api.ErrMany", laid_pledge_api_ErrMany), ("pledge/api.ErrFull", laid_pledge_api_ErrFull), ("pledge/api.ErrCrash", laid_pledge_api_ErrCrash)], narrowed := true }
def RootTearsUptoSaid : Prop := rootTearsUptoRow.holds Tryd.pinned (OpenSpec.upto rootTearsSpec)

/-- 'pledgelaw6.RootGreater', WHERE WHAT IT READS IS OF BULK AT MOST 1048576: true; the input reads as it did. -/
def rootGreaterUptoRow : OpenClaim := { program := "ytehacchacgfjlaadoor", sum := "adee98b6d482bac6d5f6664a71d049a8f7f04f9e061599a9cc3f9037e2d6a22a", func := "pledge/pledgelaw6.RootGreater", spec := "rootGreater", unfollowed := true, recurses := true, named := ["pledge/api.ErrRange", "pledge/api.ErrCrash", "pledge/api.ErrFull", "pledge/api.ErrMany", "pledge/api.ErrShape", "pledge/api.ErrEnd", "pledge/api.ErrOver", "pledge/api.ErrNone", "pledge/api.ErrThere", "pledge/api.ErrTwice", "pledge/api.ErrKind", "pledge/api.ErrBarred", "pledge/api.ErrShort", "pledge/api.ErrBreach", "pledge/api.ErrNeed", "pledge/api.ErrBound", "pledge/api.ErrDay", "pledge/api.ErrWord", "pledge/api.ErrNumber", "pledge/api.ErrBudget", "pledge/api.ErrNothing"], plainKeys := false, apart := false, laid := [("pledge/api.ErrEnd", laid_pledge_api_ErrEnd), ("pledge/api.ErrShape", laid_pledge_api_ErrShape), ("pledge/api.ErrRange", laid_pledge_api_ErrRange), ("pledge/api.ErrOver", laid_pledge_api_ErrOver), ("pledge/api.ErrMany", laid_pledge_api_ErrMany), ("pledge/api.ErrNone", laid_pledge_api_ErrNone), ("pledge/api.ErrThere", laid_pledge_api_ErrThere), ("pledge/api.ErrFull", laid_pledge_api_ErrFull), ("pledge/api.ErrCrash", laid_pledge_api_ErrCrash), ("pledge/api.ErrTwice", laid_pledge_api_ErrTwice), ("pledge/api.ErrKind", laid_pledge_api_ErrKind), ("pledge/api.ErrBarred", laid_pledge_api_ErrBarred), ("pledge/api.ErrShort", laid_pledge_api_ErrShort), ("pledge/api.ErrBreach", laid_pledge_api_ErrBreach), ("pledge/api.ErrNeed", laid_pledge_api_ErrNeed), ("pledge/api.ErrBound", laid_pledge_api_ErrBound), ("pledge/api.ErrDay", laid_pledge_api_ErrDay), ("pledge/api.ErrWord", laid_pledge_api_ErrWord), ("pledge/api.ErrNumber", laid_pledge_api_ErrNumber), ("pledge/api.ErrBudget", laid_pledge_api_ErrBudget), ("pledge/api.ErrNothing", laid_pledge_api_ErrNothing)], narrowed := true }
def RootGreaterUptoSaid : Prop := rootGreaterUptoRow.holds Tryd.pinned (OpenSpec.upto rootGreaterSpec)

/-- 'pledgelaw6.RootSaves', WHERE WHAT IT READS IS OF BULK AT MOST 1048576: true; the input reads as it did. -/
def rootSavesUptoRow : OpenClaim := { program := "ytehacchacgfjlaadoor", sum := "adee98b6d482bac6d5f6664a71d049a8f7f04f9e061599a9cc3f9037e2d6a22a", func := "pledge/pledgelaw6.RootSaves", spec := "rootSaves", unfollowed := true, recurses := true, named := ["pledge/api.ErrRange", "pledge/api.ErrCrash", "pledge/api.ErrFull", "pledge/api.ErrMany", "pledge/api.ErrShape", "pledge/api.ErrEnd", "pledge/api.ErrOver", "pledge/api.ErrNone", "pledge/api.ErrThere", "pledge/api.ErrTwice", "pledge/api.ErrKind", "pledge/api.ErrBarred", "pledge/api.ErrShort", "pledge/api.ErrBreach", "pledge/api.ErrNeed", "pledge/api.ErrBound", "pledge/api.ErrDay", "pledge/api.ErrWord", "pledge/api.ErrNumber", "pledge/api.ErrBudget", "pledge/api.ErrNothing"], plainKeys := false, apart := false, laid := [("pledge/api.ErrEnd", laid_pledge_api_ErrEnd), ("pledge/api.ErrShape", laid_pledge_api_ErrShape), ("pledge/api.ErrRange", laid_pledge_api_ErrRange), ("pledge/api.ErrOver", laid_pledge_api_ErrOver), ("pledge/api.ErrMany", laid_pledge_api_ErrMany), ("pledge/api.ErrNone", laid_pledge_api_ErrNone), ("pledge/api.ErrThere", laid_pledge_api_ErrThere), ("pledge/api.ErrFull", laid_pledge_api_ErrFull), ("pledge/api.ErrCrash", laid_pledge_api_ErrCrash), ("pledge/api.ErrTwice", laid_pledge_api_ErrTwice), ("pledge/api.ErrKind", laid_pledge_api_ErrKind), ("pledge/api.ErrBarred", laid_pledge_api_ErrBarred), ("pledge/api.ErrShort", laid_pledge_api_ErrShort), ("pledge/api.ErrBreach", laid_pledge_api_ErrBreach), ("pledge/api.ErrNeed", laid_pledge_api_ErrNeed), ("pledge/api.ErrBound", laid_pledge_api_ErrBound), ("pledge/api.ErrDay", laid_pledge_api_ErrDay), ("pledge/api.ErrWord", laid_pledge_api_ErrWord), ("pledge/api.ErrNumber", laid_pledge_api_ErrNumber), ("pledge/api.ErrBudget", laid_pledge_api_ErrBudget), ("pledge/api.ErrNothing", laid_pledge_api_ErrNothing)], narrowed := true }
def RootSavesUptoSaid : Prop := rootSavesUptoRow.holds Tryd.pinned (OpenSpec.upto rootSavesSpec)

/-- 'pledgelaw12.CutSteps', WHERE WHAT IT READS IS OF BULK AT MOST 1048576: true; the input reads as it did. -/
def cutStepsUptoRow : OpenClaim := { program := "ytehacchacgfjlaadoor", sum := "adee98b6d482bac6d5f6664a71d049a8f7f04f9e061599a9cc3f9037e2d6a22a", func := "pledge/pledgelaw12.CutSteps", spec := "cutSteps", unfollowed := true, recurses := true, named := ["pledge/api.ErrRange"], plainKeys := false, apart := false, laid := [("pledge/api.ErrRange", laid_pledge_api_ErrRange)], narrowed := true }
def CutStepsUptoSaid : Prop := cutStepsUptoRow.holds Tryd.pinned (OpenSpec.upto cutStepsSpec)

/-- 'pledgelaw12.CutPlays', WHERE WHAT IT READS IS OF BULK AT MOST 1048576: true; the input reads as it did. -/
def cutPlaysUptoRow : OpenClaim := { program := "ytehacchacgfjlaadoor", sum := "adee98b6d482bac6d5f6664a71d049a8f7f04f9e061599a9cc3f9037e2d6a22a", func := "pledge/pledgelaw12.CutPlays", spec := "cutPlays", unfollowed := true, recurses := true, named := ["pledge/api.ErrRange", "pledge/api.ErrEnd", "pledge/api.ErrShape", "pledge/api.ErrOver", "pledge/api.ErrMany", "pledge/api.ErrNone", "pledge/api.ErrThere", "pledge/api.ErrFull", "pledge/api.ErrCrash", "pledge/api.ErrTwice", "pledge/api.ErrKind", "pledge/api.ErrBarred", "pledge/api.ErrShort", "pledge/api.ErrBreach", "pledge/api.ErrNeed", "pledge/api.ErrBound", "pledge/api.ErrDay", "pledge/api.ErrWord", "pledge/api.ErrNumber", "pledge/api.ErrBudget", "pledge/api.ErrNothing"], plainKeys := false, apart := false, laid := [("pledge/api.ErrEnd", laid_pledge_api_ErrEnd), ("pledge/api.ErrShape", laid_pledge_api_ErrShape), ("pledge/api.ErrRange", laid_pledge_api_ErrRange), ("pledge/api.ErrOver", laid_pledge_api_ErrOver), ("pledge/api.ErrMany", laid_pledge_api_ErrMany), ("pledge/api.ErrNone", laid_pledge_api_ErrNone), ("pledge/api.ErrThere", laid_pledge_api_ErrThere), ("pledge/api.ErrFull", laid_pledge_api_ErrFull), ("pledge/api.ErrCrash", laid_pledge_api_ErrCrash), ("pledge/api.ErrTwice", laid_pledge_api_ErrTwice), ("pledge/api.ErrKind", laid_pledge_api_ErrKind), ("pledge/api.ErrBarred", laid_pledge_api_ErrBarred), ("pledge/api.ErrShort", laid_pledge_api_ErrShort), ("pledge/api.ErrBreach", laid_pledge_api_ErrBreach), ("pledge/api.ErrNeed", laid_pledge_api_ErrNeed), ("pledge/api.ErrBound", laid_pledge_api_ErrBound), ("pledge/api.ErrDay", laid_pledge_api_ErrDay), ("pledge/api.ErrWord", laid_pledge_api_ErrWord), ("pledge/api.ErrNumber", laid_pledge_api_ErrNumber), ("pledge/api.ErrBudget", laid_pledge_api_ErrBudget), ("pledge/api.ErrNothing", laid_pledge_api_ErrNothing)], narrowed := true }
def CutPlaysUptoSaid : Prop := cutPlaysUptoRow.holds Tryd.pinned (OpenSpec.upto cutPlaysSpec)

/-- 'pledgelaw22.StressPlays', WHERE WHAT IT READS IS OF BULK AT MOST 1048576: true; the input reads as it did. -/
def stressPlaysUptoRow : OpenClaim := { program := "ytehacchacgfjlaadoor", sum := "adee98b6d482bac6d5f6664a71d049a8f7f04f9e061599a9cc3f9037e2d6a22a", func := "pledge/pledgelaw22.StressPlays", spec := "stressPlays", unfollowed := true, recurses := true, named := ["pledge/api.ErrMany", "pledge/api.ErrRange", "pledge/api.ErrOver", "pledge/api.ErrEnd", "pledge/api.ErrShape", "pledge/api.ErrNone", "pledge/api.ErrThere", "pledge/api.ErrFull", "pledge/api.ErrCrash", "pledge/api.ErrTwice", "pledge/api.ErrKind", "pledge/api.ErrBarred", "pledge/api.ErrShort", "pledge/api.ErrBreach", "pledge/api.ErrNeed", "pledge/api.ErrBound", "pledge/api.ErrDay", "pledge/api.ErrWord", "pledge/api.ErrNumber", "pledge/api.ErrBudget", "pledge/api.ErrNothing"], plainKeys := false, apart := false, laid := [("pledge/api.ErrEnd", laid_pledge_api_ErrEnd), ("pledge/api.ErrShape", laid_pledge_api_ErrShape), ("pledge/api.ErrRange", laid_pledge_api_ErrRange), ("pledge/api.ErrOver", laid_pledge_api_ErrOver), ("pledge/api.ErrMany", laid_pledge_api_ErrMany), ("pledge/api.ErrNone", laid_pledge_api_ErrNone), ("pledge/api.ErrThere", laid_pledge_api_ErrThere), ("pledge/api.ErrFull", laid_pledge_api_ErrFull), ("pledge/api.ErrCrash", laid_pledge_api_ErrCrash), ("pledge/api.ErrTwice", laid_pledge_api_ErrTwice), ("pledge/api.ErrKind", laid_pledge_api_ErrKind), ("pledge/api.ErrBarred", laid_pledge_api_ErrBarred), ("pledge/api.ErrShort", laid_pledge_api_ErrShort), ("pledge/api.ErrBreach", laid_pledge_api_ErrBreach), ("pledge/api.ErrNeed", laid_pledge_api_ErrNeed), ("pledge/api.ErrBound", laid_pledge_api_ErrBound), ("pledge/api.ErrDay", laid_pledge_api_ErrDay), ("pledge/api.ErrWord", laid_pledge_api_ErrWord), ("pledge/api.ErrNumber", laid_pledge_api_ErrNumber), ("pledge/api.ErrBudget", laid_pledge_api_ErrBudget), ("pledge/api.ErrNothing", laid_pledge_api_ErrNothing)], narrowed := true }
def StressPlaysUptoSaid : Prop := stressPlaysUptoRow.holds Tryd.pinned (OpenSpec.upto stressPlaysSpec)

end Rows
end Go.Proofs.YtehacchacgfjlaaDoor
