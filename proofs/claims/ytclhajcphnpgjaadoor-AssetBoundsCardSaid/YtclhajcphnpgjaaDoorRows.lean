/-
  NARROWER THAN 'FOR EVERY INPUT', by the rows' own cells (each row's printed sentence says how): StressCovers: laid · CapsOrder: laid · CapsOver: laid · CapsNest: laid · CapsMost: laid · RootBytes: laid · RootTears: laid · RootGreater: laid · AssetBounds: laid · AssetOrder: laid · AssetPlays: laid · HoldSums: laid.
  DERIVED. THE GIVEN ROWS OF THIS SEAT. 12 by the template 'for every input the law returns true; each argument reads behind the call as it read before'; 0 by the template 'total and deterministic' (their statements: YtclhajcphnpgjaaDoorTotals.lean).
  GIVEN WITH THE SEED: the statements are not yours to turn. If you find one false, say at which input.
  Laid BY PROGRAM, IN A SANDBOX (cutbox-rows.mjs): the forced cells as the released guide's own fill.sh prints them over the translation a8dfc3e6da4b5564… (all of the seat's roots in one cut). By AI agents, Wed Nov 11 2026. No macro, syntax, notation, axiom, sorry.
-/
import Derived.Test.YtclhajcphnpgjaaDoorChecked
import GoSem.Claim
import GoSem.ClaimJoined
import GoSem.ClaimMapViews
import Derived.JoinedTies
import Derived.KernelRfl
namespace Go.Proofs.YtclhajcphnpgjaaDoor
/- THE CELL 'sum', in the pinned program and in every row, IS THE sha256 OF THE DUMP (.gsa) THAT YtclhajcphnpgjaaDoorProg.lean LOADS. Nothing in Lean hashes anything: it is a label: what it is worth is what the hold of that sum in a sandbox is worth. -/
noncomputable def Tryd.pinned : Pinned := { name := "ytclhajcphnpgjaadoor", sum := "a8dfc3e6da4b5564d6451a9839a728ffab66f68d01ea3704588536e980fb801f", checked := Tryd.checked }
namespace Rows
def none {H : Type} : Left H := { results := [], args := [] }

/- WHAT THE LISTED PACKAGE-LEVEL VARIABLES READ AS WHEN THE CALL BEGINS. Each datum BY PROGRAM (the guide's laid-datum.mjs) off the statement by which the dump's own 'gosem.cut.vars' lays the variable. In a bare row this is a premise. The card (YtclhajcphnpgjaaDoorCards.lean) ties it to the program's text. -/
def laid_pledge_api_ErrRange {H : Type} : DataW H := .iface "*errors.errorString" (.ptr (.agg [.lit (.string [97, 32, 110, 117, 109, 98, 101, 114, 32, 111, 117, 116, 32, 111, 102, 32, 105, 116, 115, 32, 114, 97, 110, 103, 101])]))
def laid_pledge_api_ErrOver {H : Type} : DataW H := .iface "*errors.errorString" (.ptr (.agg [.lit (.string [116, 111, 111, 32, 103, 114, 101, 97, 116, 32, 97, 32, 110, 117, 109, 98, 101, 114])]))
def laid_pledge_api_ErrMany {H : Type} : DataW H := .iface "*errors.errorString" (.ptr (.agg [.lit (.string [116, 111, 111, 32, 109, 97, 110, 121])]))
def laid_pledge_api_ErrEnd {H : Type} : DataW H := .iface "*errors.errorString" (.ptr (.agg [.lit (.string [105, 116, 32, 101, 110, 100, 115, 32, 116, 111, 111, 32, 101, 97, 114, 108, 121])]))
def laid_pledge_api_ErrShape {H : Type} : DataW H := .iface "*errors.errorString" (.ptr (.agg [.lit (.string [110, 111, 116, 32, 97, 115, 32, 105, 116, 32, 104, 97, 115, 32, 116, 111, 32, 98, 101])]))
def laid_pledge_api_ErrNone {H : Type} : DataW H := .iface "*errors.errorString" (.ptr (.agg [.lit (.string [116, 104, 101, 114, 101, 32, 105, 115, 32, 110, 111, 110, 101])]))
def laid_pledge_api_ErrThere {H : Type} : DataW H := .iface "*errors.errorString" (.ptr (.agg [.lit (.string [116, 104, 101, 114, 101, 32, 105, 115, 32, 111, 110, 101])]))
def laid_pledge_api_ErrFull {H : Type} : DataW H := .iface "*errors.errorString" (.ptr (.agg [.lit (.string [116, 104, 101, 114, 101, 32, 105, 115, 32, 110, 111, 32, 114, 111, 111, 109])]))
def laid_pledge_api_ErrCrash {H : Type} : DataW H := .iface "*errors.errorString" (.ptr (.agg [.lit (.string [105, 116, 32, 105, 115, 32, 100, 111, 119, 110])]))
def laid_pledge_api_ErrTwice {H : Type} : DataW H := .iface "*errors.errorString" (.ptr (.agg [.lit (.string [100, 111, 110, 101, 32, 97, 108, 114, 101, 97, 100, 121])]))
def laid_pledge_api_ErrKind {H : Type} : DataW H := .iface "*errors.errorString" (.ptr (.agg [.lit (.string [110, 111, 32, 115, 117, 99, 104, 32, 107, 105, 110, 100])]))
def laid_pledge_api_ErrBarred {H : Type} : DataW H := .iface "*errors.errorString" (.ptr (.agg [.lit (.string [110, 111, 116, 32, 101, 108, 105, 103, 105, 98, 108, 101])]))
def laid_pledge_api_ErrShort {H : Type} : DataW H := .iface "*errors.errorString" (.ptr (.agg [.lit (.string [110, 111, 116, 32, 101, 110, 111, 117, 103, 104, 32, 116, 104, 101, 114, 101])]))
def laid_pledge_api_ErrBreach {H : Type} : DataW H := .iface "*errors.errorString" (.ptr (.agg [.lit (.string [97, 32, 108, 105, 109, 105, 116, 32, 119, 111, 117, 108, 100, 32, 98, 101, 32, 98, 114, 111, 107, 101, 110])]))
def laid_pledge_api_ErrNeed {H : Type} : DataW H := .iface "*errors.errorString" (.ptr (.agg [.lit (.string [108, 101, 115, 115, 32, 116, 104, 97, 110, 32, 119, 104, 97, 116, 32, 105, 115, 32, 110, 101, 101, 100, 101, 100])]))
def laid_pledge_api_ErrBound {H : Type} : DataW H := .iface "*errors.errorString" (.ptr (.agg [.lit (.string [98, 111, 117, 110, 100, 32, 98, 121, 32, 97, 32, 99, 97, 108, 108])]))
def laid_pledge_api_ErrDay {H : Type} : DataW H := .iface "*errors.errorString" (.ptr (.agg [.lit (.string [110, 111, 116, 32, 111, 110, 32, 116, 104, 105, 115, 32, 100, 97, 121])]))
def laid_pledge_api_ErrWord {H : Type} : DataW H := .iface "*errors.errorString" (.ptr (.agg [.lit (.string [110, 111, 32, 115, 117, 99, 104, 32, 119, 111, 114, 100])]))
def laid_pledge_api_ErrNumber {H : Type} : DataW H := .iface "*errors.errorString" (.ptr (.agg [.lit (.string [110, 111, 116, 32, 97, 32, 110, 117, 109, 98, 101, 114])]))
def laid_pledge_api_ErrBudget {H : Type} : DataW H := .iface "*errors.errorString" (.ptr (.agg [.lit (.string [110, 111, 116, 32, 108, 111, 111, 107, 101, 100, 32, 97, 116, 32, 97, 108, 108])]))
def laid_pledge_api_ErrNothing {H : Type} : DataW H := .iface "*errors.errorString" (.ptr (.agg [.lit (.string [105, 116, 32, 99, 97, 110, 39, 116, 32, 98, 101, 32, 100, 111, 110, 101])]))

/-- 'pledgelaw22.StressCovers': WHATEVER THE INPUT: true; the input reads as it did. -/
def stressCoversSpec : ChangeSpec := { name := "stressCovers", fn := fun _ => fun
  | [d1, d2] => { results := [.lit (.bool true)], args := [d1, d2] }
  | _ => none }
def stressCoversRow : OpenClaim := { program := "ytclhajcphnpgjaadoor", sum := "a8dfc3e6da4b5564d6451a9839a728ffab66f68d01ea3704588536e980fb801f", func := "pledge/pledgelaw22.StressCovers", spec := "stressCovers", unfollowed := true, recurses := true, named := ["pledge/api.ErrMany", "pledge/api.ErrRange", "pledge/api.ErrOver"], plainKeys := false, apart := false, laid := [("pledge/api.ErrRange", laid_pledge_api_ErrRange), ("pledge/api.ErrOver", laid_pledge_api_ErrOver), ("pledge/api.ErrMany", laid_pledge_api_ErrMany)] }
def StressCoversSaid : Prop := stressCoversRow.holds Tryd.pinned (OpenSpec.ofChange stressCoversSpec)

/-- ITS FALSE NEIGHBOUR: 'it returns false'. Refute it at one input. -/
def stressCoversWrong : ChangeSpec := { name := "stressCovers", fn := fun _ => fun
  | [d1, d2] => { results := [.lit (.bool false)], args := [d1, d2] }
  | _ => none }
def StressCoversWrongFalsely : Prop := stressCoversRow.holds Tryd.pinned (OpenSpec.ofChange stressCoversWrong)

/-- 'pledgelaw16.CapsOrder': WHATEVER THE INPUT: true; the input reads as it did. -/
def capsOrderSpec : ChangeSpec := { name := "capsOrder", fn := fun _ => fun
  | [d1, d2, d3] => { results := [.lit (.bool true)], args := [d1, d2, d3] }
  | _ => none }
def capsOrderRow : OpenClaim := { program := "ytclhajcphnpgjaadoor", sum := "a8dfc3e6da4b5564d6451a9839a728ffab66f68d01ea3704588536e980fb801f", func := "pledge/pledgelaw16.CapsOrder", spec := "capsOrder", inPlace := ["math/bits.Add64"], unfollowed := true, recurses := true, named := ["pledge/api.ErrRange", "pledge/api.ErrOver"], plainKeys := false, apart := false, laid := [("pledge/api.ErrRange", laid_pledge_api_ErrRange), ("pledge/api.ErrOver", laid_pledge_api_ErrOver)] }
def CapsOrderSaid : Prop := capsOrderRow.holds Tryd.pinned (OpenSpec.ofChange capsOrderSpec)

/-- ITS FALSE NEIGHBOUR: 'it returns false'. Refute it at one input. -/
def capsOrderWrong : ChangeSpec := { name := "capsOrder", fn := fun _ => fun
  | [d1, d2, d3] => { results := [.lit (.bool false)], args := [d1, d2, d3] }
  | _ => none }
def CapsOrderWrongFalsely : Prop := capsOrderRow.holds Tryd.pinned (OpenSpec.ofChange capsOrderWrong)

/-- 'pledgelaw16.CapsOver': WHATEVER THE INPUT: true; the input reads as it did. -/
def capsOverSpec : ChangeSpec := { name := "capsOver", fn := fun _ => fun
  | [d1, d2, d3] => { results := [.lit (.bool true)], args := [d1, d2, d3] }
  | _ => none }
def capsOverRow : OpenClaim := { program := "ytclhajcphnpgjaadoor", sum := "a8dfc3e6da4b5564d6451a9839a728ffab66f68d01ea3704588536e980fb801f", func := "pledge/pledgelaw16.CapsOver", spec := "capsOver", inPlace := ["math/bits.Add64"], unfollowed := true, recurses := true, named := ["pledge/api.ErrRange", "pledge/api.ErrOver", "pledge/api.ErrEnd", "pledge/api.ErrShape", "pledge/api.ErrMany", "pledge/api.ErrNone", "pledge/api.ErrThere", "pledge/api.ErrFull", "pledge/api.ErrCrash", "pledge/api.ErrTwice", "pledge/api.ErrKind", "pledge/api.ErrBarred", "pledge/api.ErrShort", "pledge/api.ErrBreach", "pledge/api.ErrNeed", "pledge/api.ErrBound", "pledge/api.ErrDay", "pledge/api.ErrWord", "pledge/api.ErrNumber", "pledge/api.ErrBudget", "pledge/api.ErrNothing"], plainKeys := false, apart := false, laid := [("pledge/api.ErrEnd", laid_pledge_api_ErrEnd), ("pledge/api.ErrShape", laid_pledge_api_ErrShape), ("pledge/api.ErrRange", laid_pledge_api_ErrRange), ("pledge/api.ErrOver", laid_pledge_api_ErrOver), ("pledge/api.ErrMany", laid_pledge_api_ErrMany), ("pledge/api.ErrNone", laid_pledge_api_ErrNone), ("pledge/api.ErrThere", laid_pledge_api_ErrThere), ("pledge/api.ErrFull", laid_pledge_api_ErrFull), ("pledge/api.ErrCrash", laid_pledge_api_ErrCrash), ("pledge/api.ErrTwice", laid_pledge_api_ErrTwice), ("pledge/api.ErrKind", laid_pledge_api_ErrKind), ("pledge/api.ErrBarred", laid_pledge_api_ErrBarred), ("pledge/api.ErrShort", laid_pledge_api_ErrShort), ("pledge/api.ErrBreach", laid_pledge_api_ErrBreach), ("pledge/api.ErrNeed", laid_pledge_api_ErrNeed), ("pledge/api.ErrBound", laid_pledge_api_ErrBound), ("pledge/api.ErrDay", laid_pledge_api_ErrDay), ("pledge/api.ErrWord", laid_pledge_api_ErrWord), ("pledge/api.ErrNumber", laid_pledge_api_ErrNumber), ("pledge/api.ErrBudget", laid_pledge_api_ErrBudget), ("pledge/api.ErrNothing", laid_pledge_api_ErrNothing)] }
def CapsOverSaid : Prop := capsOverRow.holds Tryd.pinned (OpenSpec.ofChange capsOverSpec)

/-- ITS FALSE NEIGHBOUR: 'it returns false'. Refute it at one input. -/
def capsOverWrong : ChangeSpec := { name := "capsOver", fn := fun _ => fun
  | [d1, d2, d3] => { results := [.lit (.bool false)], args := [d1, d2, d3] }
  | _ => none }
def CapsOverWrongFalsely : Prop := capsOverRow.holds Tryd.pinned (OpenSpec.ofChange capsOverWrong)

/-- 'pledgelaw16.CapsNest': WHATEVER THE INPUT: true; the input reads as it did. -/
def capsNestSpec : ChangeSpec := { name := "capsNest", fn := fun _ => fun
  | [d1, d2, d3, d4, d5, d6] => { results := [.lit (.bool true)], args := [d1, d2, d3, d4, d5, d6] }
  | _ => none }
def capsNestRow : OpenClaim := { program := "ytclhajcphnpgjaadoor", sum := "a8dfc3e6da4b5564d6451a9839a728ffab66f68d01ea3704588536e980fb801f", func := "pledge/pledgelaw16.CapsNest", spec := "capsNest", inPlace := ["math/bits.Add64"], unfollowed := true, recurses := true, named := ["pledge/api.ErrRange", "pledge/api.ErrOver"], plainKeys := false, apart := false, laid := [("pledge/api.ErrRange", laid_pledge_api_ErrRange), ("pledge/api.ErrOver", laid_pledge_api_ErrOver)] }
def CapsNestSaid : Prop := capsNestRow.holds Tryd.pinned (OpenSpec.ofChange capsNestSpec)

/-- ITS FALSE NEIGHBOUR: 'it returns false'. Refute it at one input. -/
def capsNestWrong : ChangeSpec := { name := "capsNest", fn := fun _ => fun
  | [d1, d2, d3, d4, d5, d6] => { results := [.lit (.bool false)], args := [d1, d2, d3, d4, d5, d6] }
  | _ => none }
def CapsNestWrongFalsely : Prop := capsNestRow.holds Tryd.pinned (OpenSpec.ofChange capsNestWrong)

/-- 'pledgelaw16.CapsMost': WHATEVER THE INPUT: true; the input reads as it did. -/
def capsMostSpec : ChangeSpec := { name := "capsMost", fn := fun _ => fun
  | [d1, d2] => { results := [.lit (.bool true)], args := [d1, d2] }
  | _ => none }
def capsMostRow : OpenClaim := { program := "ytclhajcphnpgjaadoor", sum := "a8dfc3e6da4b5564d6451a9839a728ffab66f68d01ea3704588536e980fb801f", func := "pledge/pledgelaw16.CapsMost", spec := "capsMost", inPlace := ["math/bits.Add64"], unfollowed := true, recurses := true, named := ["pledge/api.ErrRange", "pledge/api.ErrOver"], plainKeys := false, apart := false, laid := [("pledge/api.ErrRange", laid_pledge_api_ErrRange), ("pledge/api.ErrOver", laid_pledge_api_ErrOver)] }
def CapsMostSaid : Prop := capsMostRow.holds Tryd.pinned (OpenSpec.ofChange capsMostSpec)

/-- ITS FALSE NEIGHBOUR: 'it returns false'. Refute it at one input. -/
def capsMostWrong : ChangeSpec := { name := "capsMost", fn := fun _ => fun
  | [d1, d2] => { results := [.lit (.bool false)], args := [d1, d2] }
  | _ => none }
def CapsMostWrongFalsely : Prop := capsMostRow.holds Tryd.pinned (OpenSpec.ofChange capsMostWrong)

/-- 'pledgelaw6.RootBytes': WHATEVER THE INPUT: true; the input reads as it did. -/
def rootBytesSpec : ChangeSpec := { name := "rootBytes", fn := fun _ => fun
  | [d1, d2, d3] => { results := [.lit (.bool true)], args := [d1, d2, d3] }
  | _ => none }
def rootBytesRow : OpenClaim := { program := "ytclhajcphnpgjaadoor", sum := "a8dfc3e6da4b5564d6451a9839a728ffab66f68d01ea3704588536e980fb801f", func := "pledge/pledgelaw6.RootBytes", spec := "rootBytes", unfollowed := true, recurses := true, named := ["pledge/api.ErrRange", "pledge/api.ErrCrash", "pledge/api.ErrFull", "pledge/api.ErrMany", "pledge/api.ErrShape", "pledge/api.ErrEnd", "pledge/api.ErrOver", "pledge/api.ErrNone", "pledge/api.ErrThere", "pledge/api.ErrTwice", "pledge/api.ErrKind", "pledge/api.ErrBarred", "pledge/api.ErrShort", "pledge/api.ErrBreach", "pledge/api.ErrNeed", "pledge/api.ErrBound", "pledge/api.ErrDay", "pledge/api.ErrWord", "pledge/api.ErrNumber", "pledge/api.ErrBudget", "pledge/api.ErrNothing"], plainKeys := false, apart := false, laid := [("pledge/api.ErrEnd", laid_pledge_api_ErrEnd), ("pledge/api.ErrShape", laid_pledge_api_ErrShape), ("pledge/api.ErrRange", laid_pledge_api_ErrRange), ("pledge/api.ErrOver", laid_pledge_api_ErrOver), ("pledge/api.ErrMany", laid_pledge_api_ErrMany), ("pledge/api.ErrNone", laid_pledge_api_ErrNone), ("pledge/api.ErrThere", laid_pledge_api_ErrThere), ("pledge/api.ErrFull", laid_pledge_api_ErrFull), ("pledge/api.ErrCrash", laid_pledge_api_ErrCrash), ("pledge/api.ErrTwice", laid_pledge_api_ErrTwice), ("pledge/api.ErrKind", laid_pledge_api_ErrKind), ("pledge/api.ErrBarred", laid_pledge_api_ErrBarred), ("pledge/api.ErrShort", laid_pledge_api_ErrShort), ("pledge/api.ErrBreach", laid_pledge_api_ErrBreach), ("pledge/api.ErrNeed", laid_pledge_api_ErrNeed), ("pledge/api.ErrBound", laid_pledge_api_ErrBound), ("pledge/api.ErrDay", laid_pledge_api_ErrDay), ("pledge/api.ErrWord", laid_pledge_api_ErrWord), ("pledge/api.ErrNumber", laid_pledge_api_ErrNumber), ("pledge/api.ErrBudget", laid_pledge_api_ErrBudget), ("pledge/api.ErrNothing", laid_pledge_api_ErrNothing)] }
def RootBytesSaid : Prop := rootBytesRow.holds Tryd.pinned (OpenSpec.ofChange rootBytesSpec)

/-- ITS FALSE NEIGHBOUR: 'it returns false'. Refute it at one input. -/
def rootBytesWrong : ChangeSpec := { name := "rootBytes", fn := fun _ => fun
  | [d1, d2, d3] => { results := [.lit (.bool false)], args := [d1, d2, d3] }
  | _ => none }
def RootBytesWrongFalsely : Prop := rootBytesRow.holds Tryd.pinned (OpenSpec.ofChange rootBytesWrong)

/-- 'pledgelaw6.RootTears': WHATEVER THE INPUT: true; the input reads as it did. -/
def rootTearsSpec : ChangeSpec := { name := "rootTears", fn := fun _ => fun
  | [d1, d2, d3, d4, d5, d6] => { results := [.lit (.bool true)], args := [d1, d2, d3, d4, d5, d6] }
  | _ => none }
def rootTearsRow : OpenClaim := { program := "ytclhajcphnpgjaadoor", sum := "a8dfc3e6da4b5564d6451a9839a728ffab66f68d01ea3704588536e980fb801f", func := "pledge/pledgelaw6.RootTears", spec := "rootTears", unfollowed := true, recurses := true, named := ["pledge/api.ErrRange", "pledge/api.ErrCrash", "pledge/api.ErrFull", "pledge/api.ErrMany", "pledge/api.ErrShape"], plainKeys := false, apart := false, laid := [("pledge/api.ErrShape", laid_pledge_api_ErrShape), ("pledge/api.ErrRange", laid_pledge_api_ErrRange), ("pledge/api.ErrMany", laid_pledge_api_ErrMany), ("pledge/api.ErrFull", laid_pledge_api_ErrFull), ("pledge/api.ErrCrash", laid_pledge_api_ErrCrash)] }
def RootTearsSaid : Prop := rootTearsRow.holds Tryd.pinned (OpenSpec.ofChange rootTearsSpec)

/-- ITS FALSE NEIGHBOUR: 'it returns false'. Refute it at one input. -/
def rootTearsWrong : ChangeSpec := { name := "rootTears", fn := fun _ => fun
  | [d1, d2, d3, d4, d5, d6] => { results := [.lit (.bool false)], args := [d1, d2, d3, d4, d5, d6] }
  | _ => none }
def RootTearsWrongFalsely : Prop := rootTearsRow.holds Tryd.pinned (OpenSpec.ofChange rootTearsWrong)

/-- 'pledgelaw6.RootGreater': WHATEVER THE INPUT: true; the input reads as it did. -/
def rootGreaterSpec : ChangeSpec := { name := "rootGreater", fn := fun _ => fun
  | [d1, d2, d3, d4] => { results := [.lit (.bool true)], args := [d1, d2, d3, d4] }
  | _ => none }
def rootGreaterRow : OpenClaim := { program := "ytclhajcphnpgjaadoor", sum := "a8dfc3e6da4b5564d6451a9839a728ffab66f68d01ea3704588536e980fb801f", func := "pledge/pledgelaw6.RootGreater", spec := "rootGreater", unfollowed := true, recurses := true, named := ["pledge/api.ErrRange", "pledge/api.ErrCrash", "pledge/api.ErrFull", "pledge/api.ErrMany", "pledge/api.ErrShape", "pledge/api.ErrEnd", "pledge/api.ErrOver", "pledge/api.ErrNone", "pledge/api.ErrThere", "pledge/api.ErrTwice", "pledge/api.ErrKind", "pledge/api.ErrBarred", "pledge/api.ErrShort", "pledge/api.ErrBreach", "pledge/api.ErrNeed", "pledge/api.ErrBound", "pledge/api.ErrDay", "pledge/api.ErrWord", "pledge/api.ErrNumber", "pledge/api.ErrBudget", "pledge/api.ErrNothing"], plainKeys := false, apart := false, laid := [("pledge/api.ErrEnd", laid_pledge_api_ErrEnd), ("pledge/api.ErrShape", laid_pledge_api_ErrShape), ("pledge/api.ErrRange", laid_pledge_api_ErrRange), ("pledge/api.ErrOver", laid_pledge_api_ErrOver), ("pledge/api.ErrMany", laid_pledge_api_ErrMany), ("pledge/api.ErrNone", laid_pledge_api_ErrNone), ("pledge/api.ErrThere", laid_pledge_api_ErrThere), ("pledge/api.ErrFull", laid_pledge_api_ErrFull), ("pledge/api.ErrCrash", laid_pledge_api_ErrCrash), ("pledge/api.ErrTwice", laid_pledge_api_ErrTwice), ("pledge/api.ErrKind", laid_pledge_api_ErrKind), ("pledge/api.ErrBarred", laid_pledge_api_ErrBarred), ("pledge/api.ErrShort", laid_pledge_api_ErrShort), ("pledge/api.ErrBreach", laid_pledge_api_ErrBreach), ("pledge/api.ErrNeed", laid_pledge_api_ErrNeed), ("pledge/api.ErrBound", laid_pledge_api_ErrBound), ("pledge/api.ErrDay", laid_pledge_api_ErrDay), ("pledge/api.ErrWord", laid_pledge_api_ErrWord), ("pledge/api.ErrNumber", laid_pledge_api_ErrNumber), ("pledge/api.ErrBudget", laid_pledge_api_ErrBudget), ("pledge/api.ErrNothing", laid_pledge_api_ErrNothing)] }
def RootGreaterSaid : Prop := rootGreaterRow.holds Tryd.pinned (OpenSpec.ofChange rootGreaterSpec)

/-- ITS FALSE NEIGHBOUR: 'it returns false'. Refute it at one input. -/
def rootGreaterWrong : ChangeSpec := { name := "rootGreater", fn := fun _ => fun
  | [d1, d2, d3, d4] => { results := [.lit (.bool false)], args := [d1, d2, d3, d4] }
  | _ => none }
def RootGreaterWrongFalsely : Prop := rootGreaterRow.holds Tryd.pinned (OpenSpec.ofChange rootGreaterWrong)

/-- 'pledgelaw10.AssetBounds': WHATEVER THE INPUT: true; the input reads as it did. -/
def assetBoundsSpec : ChangeSpec := { name := "assetBounds", fn := fun _ => fun
  | [d1, d2, d3, d4, d5] => { results := [.lit (.bool true)], args := [d1, d2, d3, d4, d5] }
  | _ => none }
def assetBoundsRow : OpenClaim := { program := "ytclhajcphnpgjaadoor", sum := "a8dfc3e6da4b5564d6451a9839a728ffab66f68d01ea3704588536e980fb801f", func := "pledge/pledgelaw10.AssetBounds", spec := "assetBounds", unfollowed := true, recurses := true, named := ["pledge/api.ErrThere", "pledge/api.ErrRange", "pledge/api.ErrEnd", "pledge/api.ErrShape", "pledge/api.ErrOver", "pledge/api.ErrMany", "pledge/api.ErrNone", "pledge/api.ErrFull", "pledge/api.ErrCrash", "pledge/api.ErrTwice", "pledge/api.ErrKind", "pledge/api.ErrBarred", "pledge/api.ErrShort", "pledge/api.ErrBreach", "pledge/api.ErrNeed", "pledge/api.ErrBound", "pledge/api.ErrDay", "pledge/api.ErrWord", "pledge/api.ErrNumber", "pledge/api.ErrBudget", "pledge/api.ErrNothing"], plainKeys := false, apart := false, laid := [("pledge/api.ErrEnd", laid_pledge_api_ErrEnd), ("pledge/api.ErrShape", laid_pledge_api_ErrShape), ("pledge/api.ErrRange", laid_pledge_api_ErrRange), ("pledge/api.ErrOver", laid_pledge_api_ErrOver), ("pledge/api.ErrMany", laid_pledge_api_ErrMany), ("pledge/api.ErrNone", laid_pledge_api_ErrNone), ("pledge/api.ErrThere", laid_pledge_api_ErrThere), ("pledge/api.ErrFull", laid_pledge_api_ErrFull), ("pledge/api.ErrCrash", laid_pledge_api_ErrCrash), ("pledge/api.ErrTwice", laid_pledge_api_ErrTwice), ("pledge/api.ErrKind", laid_pledge_api_ErrKind), ("pledge/api.ErrBarred", laid_pledge_api_ErrBarred), ("pledge/api.ErrShort", laid_pledge_api_ErrShort), ("pledge/api.ErrBreach", laid_pledge_api_ErrBreach), ("pledge/api.ErrNeed", laid_pledge_api_ErrNeed), ("pledge/api.ErrBound", laid_pledge_api_ErrBound), ("pledge/api.ErrDay", laid_pledge_api_ErrDay), ("pledge/api.ErrWord", laid_pledge_api_ErrWord), ("pledge/api.ErrNumber", laid_pledge_api_ErrNumber), ("pledge/api.ErrBudget", laid_pledge_api_ErrBudget), ("pledge/api.ErrNothing", laid_pledge_api_ErrNothing)] }
def AssetBoundsSaid : Prop := assetBoundsRow.holds Tryd.pinned (OpenSpec.ofChange assetBoundsSpec)

/-- ITS FALSE NEIGHBOUR: 'it returns false'. Refute it at one input. -/
def assetBoundsWrong : ChangeSpec := { name := "assetBounds", fn := fun _ => fun
  | [d1, d2, d3, d4, d5] => { results := [.lit (.bool false)], args := [d1, d2, d3, d4, d5] }
  | _ => none }
def AssetBoundsWrongFalsely : Prop := assetBoundsRow.holds Tryd.pinned (OpenSpec.ofChange assetBoundsWrong)

/-- 'pledgelaw10.AssetOrder': WHATEVER THE INPUT: true; the input reads as it did. -/
def assetOrderSpec : ChangeSpec := { name := "assetOrder", fn := fun _ => fun
  | [d1, d2] => { results := [.lit (.bool true)], args := [d1, d2] }
  | _ => none }
def assetOrderRow : OpenClaim := { program := "ytclhajcphnpgjaadoor", sum := "a8dfc3e6da4b5564d6451a9839a728ffab66f68d01ea3704588536e980fb801f", func := "pledge/pledgelaw10.AssetOrder", spec := "assetOrder", unfollowed := true, recurses := true, named := ["pledge/api.ErrThere", "pledge/api.ErrRange", "pledge/api.ErrEnd", "pledge/api.ErrShape", "pledge/api.ErrOver", "pledge/api.ErrMany", "pledge/api.ErrNone", "pledge/api.ErrFull", "pledge/api.ErrCrash", "pledge/api.ErrTwice", "pledge/api.ErrKind", "pledge/api.ErrBarred", "pledge/api.ErrShort", "pledge/api.ErrBreach", "pledge/api.ErrNeed", "pledge/api.ErrBound", "pledge/api.ErrDay", "pledge/api.ErrWord", "pledge/api.ErrNumber", "pledge/api.ErrBudget", "pledge/api.ErrNothing"], plainKeys := false, apart := false, laid := [("pledge/api.ErrEnd", laid_pledge_api_ErrEnd), ("pledge/api.ErrShape", laid_pledge_api_ErrShape), ("pledge/api.ErrRange", laid_pledge_api_ErrRange), ("pledge/api.ErrOver", laid_pledge_api_ErrOver), ("pledge/api.ErrMany", laid_pledge_api_ErrMany), ("pledge/api.ErrNone", laid_pledge_api_ErrNone), ("pledge/api.ErrThere", laid_pledge_api_ErrThere), ("pledge/api.ErrFull", laid_pledge_api_ErrFull), ("pledge/api.ErrCrash", laid_pledge_api_ErrCrash), ("pledge/api.ErrTwice", laid_pledge_api_ErrTwice), ("pledge/api.ErrKind", laid_pledge_api_ErrKind), ("pledge/api.ErrBarred", laid_pledge_api_ErrBarred), ("pledge/api.ErrShort", laid_pledge_api_ErrShort), ("pledge/api.ErrBreach", laid_pledge_api_ErrBreach), ("pledge/api.ErrNeed", laid_pledge_api_ErrNeed), ("pledge/api.ErrBound", laid_pledge_api_ErrBound), ("pledge/api.ErrDay", laid_pledge_api_ErrDay), ("pledge/api.ErrWord", laid_pledge_api_ErrWord), ("pledge/api.ErrNumber", laid_pledge_api_ErrNumber), ("pledge/api.ErrBudget", laid_pledge_api_ErrBudget), ("pledge/api.ErrNothing", laid_pledge_api_ErrNothing)] }
def AssetOrderSaid : Prop := assetOrderRow.holds Tryd.pinned (OpenSpec.ofChange assetOrderSpec)

/-- ITS FALSE NEIGHBOUR: 'it returns false'. Refute it at one input. -/
def assetOrderWrong : ChangeSpec := { name := "assetOrder", fn := fun _ => fun
  | [d1, d2] => { results := [.lit (.bool false)], args := [d1, d2] }
  | _ => none }
def AssetOrderWrongFalsely : Prop := assetOrderRow.holds Tryd.pinned (OpenSpec.ofChange assetOrderWrong)

/-- 'pledgelaw10.AssetPlays': WHATEVER THE INPUT: true; the input reads as it did. -/
def assetPlaysSpec : ChangeSpec := { name := "assetPlays", fn := fun _ => fun
  | [d1, d2, d3, d4] => { results := [.lit (.bool true)], args := [d1, d2, d3, d4] }
  | _ => none }
def assetPlaysRow : OpenClaim := { program := "ytclhajcphnpgjaadoor", sum := "a8dfc3e6da4b5564d6451a9839a728ffab66f68d01ea3704588536e980fb801f", func := "pledge/pledgelaw10.AssetPlays", spec := "assetPlays", unfollowed := true, recurses := true, named := ["pledge/api.ErrRange", "pledge/api.ErrEnd", "pledge/api.ErrShape", "pledge/api.ErrOver", "pledge/api.ErrMany", "pledge/api.ErrNone", "pledge/api.ErrThere", "pledge/api.ErrFull", "pledge/api.ErrCrash", "pledge/api.ErrTwice", "pledge/api.ErrKind", "pledge/api.ErrBarred", "pledge/api.ErrShort", "pledge/api.ErrBreach", "pledge/api.ErrNeed", "pledge/api.ErrBound", "pledge/api.ErrDay", "pledge/api.ErrWord", "pledge/api.ErrNumber", "pledge/api.ErrBudget", "pledge/api.ErrNothing"], plainKeys := false, apart := false, laid := [("pledge/api.ErrEnd", laid_pledge_api_ErrEnd), ("pledge/api.ErrShape", laid_pledge_api_ErrShape), ("pledge/api.ErrRange", laid_pledge_api_ErrRange), ("pledge/api.ErrOver", laid_pledge_api_ErrOver), ("pledge/api.ErrMany", laid_pledge_api_ErrMany), ("pledge/api.ErrNone", laid_pledge_api_ErrNone), ("pledge/api.ErrThere", laid_pledge_api_ErrThere), ("pledge/api.ErrFull", laid_pledge_api_ErrFull), ("pledge/api.ErrCrash", laid_pledge_api_ErrCrash), ("pledge/api.ErrTwice", laid_pledge_api_ErrTwice), ("pledge/api.ErrKind", laid_pledge_api_ErrKind), ("pledge/api.ErrBarred", laid_pledge_api_ErrBarred), ("pledge/api.ErrShort", laid_pledge_api_ErrShort), ("pledge/api.ErrBreach", laid_pledge_api_ErrBreach), ("pledge/api.ErrNeed", laid_pledge_api_ErrNeed), ("pledge/api.ErrBound", laid_pledge_api_ErrBound), ("pledge/api.ErrDay", laid_pledge_api_ErrDay), ("pledge/api.ErrWord", laid_pledge_api_ErrWord), ("pledge/api.ErrNumber", laid_pledge_api_ErrNumber), ("pledge/api.ErrBudget", laid_pledge_api_ErrBudget), ("pledge/api.ErrNothing", laid_pledge_api_ErrNothing)] }
def AssetPlaysSaid : Prop := assetPlaysRow.holds Tryd.pinned (OpenSpec.ofChange assetPlaysSpec)

/-- ITS FALSE NEIGHBOUR: 'it returns false'. Refute it at one input. -/
def assetPlaysWrong : ChangeSpec := { name := "assetPlays", fn := fun _ => fun
  | [d1, d2, d3, d4] => { results := [.lit (.bool false)], args := [d1, d2, d3, d4] }
  | _ => none }
def AssetPlaysWrongFalsely : Prop := assetPlaysRow.holds Tryd.pinned (OpenSpec.ofChange assetPlaysWrong)

/-- 'pledgelaw14.HoldSums': WHATEVER THE INPUT: true; the input reads as it did. -/
def holdSumsSpec : ChangeSpec := { name := "holdSums", fn := fun _ => fun
  | [d1, d2] => { results := [.lit (.bool true)], args := [d1, d2] }
  | _ => none }
def holdSumsRow : OpenClaim := { program := "ytclhajcphnpgjaadoor", sum := "a8dfc3e6da4b5564d6451a9839a728ffab66f68d01ea3704588536e980fb801f", func := "pledge/pledgelaw14.HoldSums", spec := "holdSums", unfollowed := true, recurses := true, named := ["pledge/api.ErrShort", "pledge/api.ErrRange", "pledge/api.ErrEnd", "pledge/api.ErrShape", "pledge/api.ErrOver", "pledge/api.ErrMany", "pledge/api.ErrNone", "pledge/api.ErrThere", "pledge/api.ErrFull", "pledge/api.ErrCrash", "pledge/api.ErrTwice", "pledge/api.ErrKind", "pledge/api.ErrBarred", "pledge/api.ErrBreach", "pledge/api.ErrNeed", "pledge/api.ErrBound", "pledge/api.ErrDay", "pledge/api.ErrWord", "pledge/api.ErrNumber", "pledge/api.ErrBudget", "pledge/api.ErrNothing"], plainKeys := false, apart := false, laid := [("pledge/api.ErrEnd", laid_pledge_api_ErrEnd), ("pledge/api.ErrShape", laid_pledge_api_ErrShape), ("pledge/api.ErrRange", laid_pledge_api_ErrRange), ("pledge/api.ErrOver", laid_pledge_api_ErrOver), ("pledge/api.ErrMany", laid_pledge_api_ErrMany), ("pledge/api.ErrNone", laid_pledge_api_ErrNone), ("pledge/api.ErrThere", laid_pledge_api_ErrThere), ("pledge/api.ErrFull", laid_pledge_api_ErrFull), ("pledge/api.ErrCrash", laid_pledge_api_ErrCrash), ("pledge/api.ErrTwice", laid_pledge_api_ErrTwice), ("pledge/api.ErrKind", laid_pledge_api_ErrKind), ("pledge/api.ErrBarred", laid_pledge_api_ErrBarred), ("pledge/api.ErrShort", laid_pledge_api_ErrShort), ("pledge/api.ErrBreach", laid_pledge_api_ErrBreach), ("pledge/api.ErrNeed", laid_pledge_api_ErrNeed), ("pledge/api.ErrBound", laid_pledge_api_ErrBound), ("pledge/api.ErrDay", laid_pledge_api_ErrDay), ("pledge/api.ErrWord", laid_pledge_api_ErrWord), ("pledge/api.ErrNumber", laid_pledge_api_ErrNumber), ("pledge/api.ErrBudget", laid_pledge_api_ErrBudget), ("pledge/api.ErrNothing", laid_pledge_api_ErrNothing)] }
def HoldSumsSaid : Prop := holdSumsRow.holds Tryd.pinned (OpenSpec.ofChange holdSumsSpec)

/-- ITS FALSE NEIGHBOUR: 'it returns false'. Refute it at one input. -/
def holdSumsWrong : ChangeSpec := { name := "holdSums", fn := fun _ => fun
  | [d1, d2] => { results := [.lit (.bool false)], args := [d1, d2] }
  | _ => none }
def HoldSumsWrongFalsely : Prop := holdSumsRow.holds Tryd.pinned (OpenSpec.ofChange holdSumsWrong)

/- THE SECOND FORM. 'bulk': how many values and letters a reading holds, each counted each time it is reached (what is shared counts as often as it is met; a slice's spare places count too). A statement '..UptoSaid' is the law's where the arguments, and the package variables that the reading takes, are together of bulk at most 1048576: NARROWER than '..Said'. Prove '..Said' where nothing that the law and all that it calls make is longer than what came in: it says more and counts as full. Else prove '..UptoSaid'. A law counts once. -/
mutual
def uptoBulk {H : Type} : DataW H → Nat
  | .lit (.string bytes) => bytes.length + 1
  | .lit _ => 1
  | .nil => 1
  | .ptr d => uptoBulk d + 1
  | .slice elems spare => uptoBulkAll elems + uptoBulkAll spare + 1
  | .agg parts => uptoBulkAll parts + 1
  | .iface _ d => uptoBulk d + 1
  | .map entries => uptoBulkEntries entries + 1
  | .held _ => 1
def uptoBulkAll {H : Type} : List (DataW H) → Nat
  | [] => 0
  | d :: r => uptoBulk d + uptoBulkAll r
def uptoBulkEntries {H : Type} : List (Lit × DataW H) → Nat
  | [] => 0
  | x :: r => uptoBulkEntry x + uptoBulkEntries r
def uptoBulkEntry {H : Type} : Lit × DataW H → Nat
  | (.string bytes, d) => bytes.length + uptoBulk d + 1
  | (_, d) => uptoBulk d + 1
 end
def uptoSmall : (H : Type) → List (DataW H) → Bool := fun _ ds => decide (uptoBulkAll ds ≤ 1048576)
def OpenSpec.upto (s : _root_.Go.ChangeSpec) : _root_.Go.OpenSpec := { _root_.Go.OpenSpec.ofChange s with cond := some uptoSmall }

/-- 'pledgelaw22.StressCovers', WHERE WHAT IT READS IS OF BULK AT MOST 1048576: true; the input reads as it did. -/
def stressCoversUptoRow : OpenClaim := { program := "ytclhajcphnpgjaadoor", sum := "a8dfc3e6da4b5564d6451a9839a728ffab66f68d01ea3704588536e980fb801f", func := "pledge/pledgelaw22.StressCovers", spec := "stressCovers", unfollowed := true, recurses := true, named := ["pledge/api.ErrMany", "pledge/api.ErrRange", "pledge/api.ErrOver"], plainKeys := false, apart := false, laid := [("pledge/api.ErrRange", laid_pledge_api_ErrRange), ("pledge/api.ErrOver", laid_pledge_api_ErrOver), ("pledge/api.ErrMany", laid_pledge_api_ErrMany)], narrowed := true }
def StressCoversUptoSaid : Prop := stressCoversUptoRow.holds Tryd.pinned (OpenSpec.upto stressCoversSpec)

/-- 'pledgelaw16.CapsOrder', WHERE WHAT IT READS IS OF BULK AT MOST 1048576: true; the input reads as it did. -/
def capsOrderUptoRow : OpenClaim := { program := "ytclhajcphnpgjaadoor", sum := "a8dfc3e6da4b5564d6451a9839a728ffab66f68d01ea3704588536e980fb801f", func := "pledge/pledgelaw16.CapsOrder", spec := "capsOrder", inPlace := ["math/bits.Add64"], unfollowed := true, recurses := true, named := ["pledge/api.ErrRange", "pledge/api.ErrOver"], plainKeys := false, apart := false, laid := [("pledge/api.ErrRange", laid_pledge_api_ErrRange), ("pledge/api.ErrOver", laid_pledge_api_ErrOver)], narrowed := true }
def CapsOrderUptoSaid : Prop := capsOrderUptoRow.holds Tryd.pinned (OpenSpec.upto capsOrderSpec)

/-- 'pledgelaw16.CapsOver', WHERE WHAT IT READS IS OF BULK AT MOST 1048576: true; the input reads as it did. -/
def capsOverUptoRow : OpenClaim := { program := "ytclhajcphnpgjaadoor", sum := "a8dfc3e6da4b5564d6451a9839a728ffab66f68d01ea3704588536e980fb801f", func := "pledge/pledgelaw16.CapsOver", spec := "capsOver", inPlace := ["math/bits.Add64"], unfollowed := true, recurses := true, named := ["pledge/api.ErrRange", "pledge/api.ErrOver", "pledge/api.ErrEnd", "pledge/api.ErrShape", "pledge/api.ErrMany", "pledge/api.ErrNone", "pledge/api.ErrThere", "pledge/api.ErrFull", "pledge/api.ErrCrash", "pledge/api.ErrTwice", "pledge/api.ErrKind", "pledge/api.ErrBarred", "pledge/api.ErrShort", "pledge/api.ErrBreach", "pledge/api.ErrNeed", "pledge/api.ErrBound", "pledge/api.ErrDay", "pledge/api.ErrWord", "pledge/api.ErrNumber", "pledge/api.ErrBudget", "pledge/api.ErrNothing"], plainKeys := false, apart := false, laid := [("pledge/api.ErrEnd", laid_pledge_api_ErrEnd), ("pledge/api.ErrShape", laid_pledge_api_ErrShape), ("pledge/api.ErrRange", laid_pledge_api_ErrRange), ("pledge/api.ErrOver", laid_pledge_api_ErrOver), ("pledge/api.ErrMany", laid_pledge_api_ErrMany), ("pledge/api.ErrNone", laid_pledge_api_ErrNone), ("pledge/api.ErrThere", laid_pledge_api_ErrThere), ("pledge/api.ErrFull", laid_pledge_api_ErrFull), ("pledge/api.ErrCrash", laid_pledge_api_ErrCrash), ("pledge/api.ErrTwice", laid_pledge_api_ErrTwice), ("pledge/api.ErrKind", laid_pledge_api_ErrKind), ("pledge/api.ErrBarred", laid_pledge_api_ErrBarred), ("pledge/api.ErrShort", laid_pledge_api_ErrShort), ("pledge/api.ErrBreach", laid_pledge_api_ErrBreach), ("pledge/api.ErrNeed", laid_pledge_api_ErrNeed), ("pledge/api.ErrBound", laid_pledge_api_ErrBound), ("pledge/api.ErrDay", laid_pledge_api_ErrDay), ("pledge/api.ErrWord", laid_pledge_api_ErrWord), ("pledge/api.ErrNumber", laid_pledge_api_ErrNumber), ("pledge/api.ErrBudget", laid_pledge_api_ErrBudget), ("pledge/api.ErrNothing", laid_pledge_api_ErrNothing)], narrowed := true }
def CapsOverUptoSaid : Prop := capsOverUptoRow.holds Tryd.pinned (OpenSpec.upto capsOverSpec)

/-- 'pledgelaw16.CapsNest', WHERE WHAT IT READS IS OF BULK AT MOST 1048576: true; the input reads as it did. -/
def capsNestUptoRow : OpenClaim := { program := "ytclhajcphnpgjaadoor", sum := "a8dfc3e6da4b5564d6451a9839a728ffab66f68d01ea3704588536e980fb801f", func := "pledge/pledgelaw16.CapsNest", spec := "capsNest", inPlace := ["math/bits.Add64"], unfollowed := true, recurses := true, named := ["pledge/api.ErrRange", "pledge/api.ErrOver"], plainKeys := false, apart := false, laid := [("pledge/api.ErrRange", laid_pledge_api_ErrRange), ("pledge/api.ErrOver", laid_pledge_api_ErrOver)], narrowed := true }
def CapsNestUptoSaid : Prop := capsNestUptoRow.holds Tryd.pinned (OpenSpec.upto capsNestSpec)

/-- 'pledgelaw16.CapsMost', WHERE WHAT IT READS IS OF BULK AT MOST 1048576: true; the input reads as it did. -/
def capsMostUptoRow : OpenClaim := { program := "ytclhajcphnpgjaadoor", sum := "a8dfc3e6da4b5564d6451a9839a728ffab66f68d01ea3704588536e980fb801f", func := "pledge/pledgelaw16.CapsMost", spec := "capsMost", inPlace := ["math/bits.Add64"], unfollowed := true, recurses := true, named := ["pledge/api.ErrRange", "pledge/api.ErrOver"], plainKeys := false, apart := false, laid := [("pledge/api.ErrRange", laid_pledge_api_ErrRange), ("pledge/api.ErrOver", laid_pledge_api_ErrOver)], narrowed := true }
def CapsMostUptoSaid : Prop := capsMostUptoRow.holds Tryd.pinned (OpenSpec.upto capsMostSpec)

/-- 'pledgelaw6.RootBytes', WHERE WHAT IT READS IS OF BULK AT MOST 1048576: true; the input reads as it did. -/
def rootBytesUptoRow : OpenClaim := { program := "ytclhajcphnpgjaadoor", sum := "a8dfc3e6da4b5564d6451a9839a728ffab66f68d01ea3704588536e980fb801f", func := "pledge/pledgelaw6.RootBytes", spec := "rootBytes", unfollowed := true, recurses := true, named := ["pledge/api.ErrRange", "pledge/api.ErrCrash", "pledge/api.ErrFull", "pledge/api.ErrMany", "pledge/api.ErrShape", "pledge/api.ErrEnd", "pledge/api.ErrOver", "pledge/api.ErrNone", "pledge/api.ErrThere", "pledge/api.ErrTwice", "pledge/api.ErrKind", "pledge/api.ErrBarred", "pledge/api.ErrShort", "pledge/api.ErrBreach", "pledge/api.ErrNeed", "pledge/api.ErrBound", "pledge/api.ErrDay", "pledge/api.ErrWord", "pledge/api.ErrNumber", "pledge/api.ErrBudget", "pledge/api.ErrNothing"], plainKeys := false, apart := false, laid := [("pledge/api.ErrEnd", laid_pledge_api_ErrEnd), ("pledge/api.ErrShape", laid_pledge_api_ErrShape), ("pledge/api.ErrRange", laid_pledge_api_ErrRange), ("pledge/api.ErrOver", laid_pledge_api_ErrOver), ("pledge/api.ErrMany", laid_pledge_api_ErrMany), ("pledge/api.ErrNone", laid_pledge_api_ErrNone), ("pledge/api.ErrThere", laid_pledge_api_ErrThere), ("pledge/api.ErrFull", laid_pledge_api_ErrFull), ("pledge/api.ErrCrash", laid_pledge_api_ErrCrash), ("pledge/api.ErrTwice", laid_pledge_api_ErrTwice), ("pledge/api.ErrKind", laid_pledge_api_ErrKind), ("pledge/api.ErrBarred", laid_pledge_api_ErrBarred), ("pledge/api.ErrShort", laid_pledge_api_ErrShort), ("pledge/api.ErrBreach", laid_pledge_api_ErrBreach), ("pledge/api.ErrNeed", laid_pledge_api_ErrNeed), ("pledge/api.ErrBound", laid_pledge_api_ErrBound), ("pledge/api.ErrDay", laid_pledge_api_ErrDay), ("pledge/api.ErrWord", laid_pledge_api_ErrWord), ("pledge/api.ErrNumber", laid_pledge_api_ErrNumber), ("pledge/api.ErrBudget", laid_pledge_api_ErrBudget), ("pledge/api.ErrNothing", laid_pledge_api_ErrNothing)], narrowed := true }
def RootBytesUptoSaid : Prop := rootBytesUptoRow.holds Tryd.pinned (OpenSpec.upto rootBytesSpec)

/-- 'pledgelaw6.RootTears', WHERE WHAT IT READS IS OF BULK AT MOST 1048576: true; the input reads as it did. -/
def rootTearsUptoRow : OpenClaim := { program := "ytclhajcphnpgjaadoor", sum := "a8dfc3e6da4b5564d6451a9839a728ffab66f68d01ea3704588536e980fb801f", func := "pledge/pledgelaw6.RootTears", spec := "rootTears", unfollowed := true, recurses := true, named := ["pledge/api.ErrRange", "pledge/api.ErrCrash", "pledge/api.ErrFull", "pledge/api.ErrMany", "pledge/api.ErrShape"], plainKeys := false, apart := false, laid := [("pledge/api.ErrShape", laid_pledge_api_ErrShape), ("pledge/api.ErrRange", laid_pledge_api_ErrRange), ("pledge/api.ErrMany", laid_pledge_api_ErrMany), ("pledge/api.ErrFull", laid_pledge_api_ErrFull), ("pledge/api.ErrCrash", laid_pledge_api_ErrCrash)], narrowed := true }
def RootTearsUptoSaid : Prop := rootTearsUptoRow.holds Tryd.pinned (OpenSpec.upto rootTearsSpec)

/-- 'pledgelaw6.RootGreater', WHERE WHAT IT READS IS OF BULK AT MOST 1048576: true; the input reads as it did. -/
def rootGreaterUptoRow : OpenClaim := { program := "ytclhajcphnpgjaadoor", sum := "a8dfc3e6da4b5564d6451a9839a728ffab66f68d01ea3704588536e980fb801f", func := "pledge/pledgelaw6.RootGreater", spec := "rootGreater", unfollowed := true, recurses := true, named := ["pledge/api.ErrRange", "pledge/api.ErrCrash", "pledge/api.ErrFull", "pledge/api.ErrMany", "pledge/api.ErrShape", "pledge/api.ErrEnd", "pledge/api.ErrOver", "pledge/api.ErrNone", "pledge/api.ErrThere", "pledge/api.ErrTwice", "pledge/api.ErrKind", "pledge/api.ErrBarred", "pledge/api.ErrShort", "pledge/api.ErrBreach", "pledge/api.ErrNeed", "pledge/api.ErrBound", "pledge/api.ErrDay", "pledge/api.ErrWord", "pledge/api.ErrNumber", "pledge/api.ErrBudget", "pledge/api.ErrNothing"], plainKeys := false, apart := false, laid := [("pledge/api.ErrEnd", laid_pledge_api_ErrEnd), ("pledge/api.ErrShape", laid_pledge_api_ErrShape), ("pledge/api.ErrRange", laid_pledge_api_ErrRange), ("pledge/api.ErrOver", laid_pledge_api_ErrOver), ("pledge/api.ErrMany", laid_pledge_api_ErrMany), ("pledge/api.ErrNone", laid_pledge_api_ErrNone), ("pledge/api.ErrThere", laid_pledge_api_ErrThere), ("pledge/api.ErrFull", laid_pledge_api_ErrFull), ("pledge/api.ErrCrash", laid_pledge_api_ErrCrash), ("pledge/api.ErrTwice", laid_pledge_api_ErrTwice), ("pledge/api.ErrKind", laid_pledge_api_ErrKind), ("pledge/api.ErrBarred", laid_pledge_api_ErrBarred), ("pledge/api.ErrShort", laid_pledge_api_ErrShort), ("pledge/api.ErrBreach", laid_pledge_api_ErrBreach), ("pledge/api.ErrNeed", laid_pledge_api_ErrNeed), ("pledge/api.ErrBound", laid_pledge_api_ErrBound), ("pledge/api.ErrDay", laid_pledge_api_ErrDay), ("pledge/api.ErrWord", laid_pledge_api_ErrWord), ("pledge/api.ErrNumber", laid_pledge_api_ErrNumber), ("pledge/api.ErrBudget", laid_pledge_api_ErrBudget), ("pledge/api.ErrNothing", laid_pledge_api_ErrNothing)], narrowed := true }
def RootGreaterUptoSaid : Prop := rootGreaterUptoRow.holds Tryd.pinned (OpenSpec.upto rootGreaterSpec)

/-- 'pledgelaw10.AssetBounds', WHERE WHAT IT READS IS OF BULK AT MOST 1048576: true; the input reads as it did. -/
def assetBoundsUptoRow : OpenClaim := { program := "ytclhajcphnpgjaadoor", sum := "a8dfc3e6da4b5564d6451a9839a728ffab66f68d01ea3704588536e980fb801f", func := "pledge/pledgelaw10.AssetBounds", spec := "assetBounds", unfollowed := true, recurses := true, named := ["pledge/api.ErrThere", "pledge/api.ErrRange", "pledge/api.ErrEnd", "pledge/api.ErrShape", "pledge/api.ErrOver", "pledge/api.ErrMany", "pledge/api.ErrNone", "pledge/api.ErrFull", "pledge/api.ErrCrash", "pledge/api.ErrTwice", "pledge/api.ErrKind", "pledge/api.ErrBarred", "pledge/api.ErrShort", "pledge/api.ErrBreach", "pledge/api.ErrNeed", "pledge/api.ErrBound", "pledge/api.ErrDay", "pledge/api.ErrWord", "pledge/api.ErrNumber", "pledge/api.ErrBudget", "pledge/api.ErrNothing"], plainKeys := false, apart := false, laid := [("pledge/api.ErrEnd", laid_pledge_api_ErrEnd), ("pledge/api.ErrShape", laid_pledge_api_ErrShape), ("pledge/api.ErrRange", laid_pledge_api_ErrRange), ("pledge/api.ErrOver", laid_pledge_api_ErrOver), ("pledge/api.ErrMany", laid_pledge_api_ErrMany), ("pledge/api.ErrNone", laid_pledge_api_ErrNone), ("pledge/api.ErrThere", laid_pledge_api_ErrThere), ("pledge/api.ErrFull", laid_pledge_api_ErrFull), ("pledge/api.ErrCrash", laid_pledge_api_ErrCrash), ("pledge/api.ErrTwice", laid_pledge_api_ErrTwice), ("pledge/api.ErrKind", laid_pledge_api_ErrKind), ("pledge/api.ErrBarred", laid_pledge_api_ErrBarred), ("pledge/api.ErrShort", laid_pledge_api_ErrShort), ("pledge/api.ErrBreach", laid_pledge_api_ErrBreach), ("pledge/api.ErrNeed", laid_pledge_api_ErrNeed), ("pledge/api.ErrBound", laid_pledge_api_ErrBound), ("pledge/api.ErrDay", laid_pledge_api_ErrDay), ("pledge/api.ErrWord", laid_pledge_api_ErrWord), ("pledge/api.ErrNumber", laid_pledge_api_ErrNumber), ("pledge/api.ErrBudget", laid_pledge_api_ErrBudget), ("pledge/api.ErrNothing", laid_pledge_api_ErrNothing)], narrowed := true }
def AssetBoundsUptoSaid : Prop := assetBoundsUptoRow.holds Tryd.pinned (OpenSpec.upto assetBoundsSpec)

/-- 'pledgelaw10.AssetOrder', WHERE WHAT IT READS IS OF BULK AT MOST 1048576: true; the input reads as it did. -/
def assetOrderUptoRow : OpenClaim := { program := "ytclhajcphnpgjaadoor", sum := "a8dfc3e6da4b5564d6451a9839a728ffab66f68d01ea3704588536e980fb801f", func := "pledge/pledgelaw10.AssetOrder", spec := "assetOrder", unfollowed := true, recurses := true, named := ["pledge/api.ErrThere", "pledge/api.ErrRange", "pledge/api.ErrEnd", "pledge/api.ErrShape", "pledge/api.ErrOver", "pledge/api.ErrMany", "pledge/api.ErrNone", "pledge/api.ErrFull", "pledge/api.ErrCrash", "pledge/api.ErrTwice", "pledge/api.ErrKind", "pledge/api.ErrBarred", "pledge/api.ErrShort", "pledge/api.ErrBreach", "pledge/api.ErrNeed", "pledge/api.ErrBound", "pledge/api.ErrDay", "pledge/api.ErrWord", "pledge/api.ErrNumber", "pledge/api.ErrBudget", "pledge/api.ErrNothing"], plainKeys := false, apart := false, laid := [("pledge/api.ErrEnd", laid_pledge_api_ErrEnd), ("pledge/api.ErrShape", laid_pledge_api_ErrShape), ("pledge/api.ErrRange", laid_pledge_api_ErrRange), ("pledge/api.ErrOver", laid_pledge_api_ErrOver), ("pledge/api.ErrMany", laid_pledge_api_ErrMany), ("pledge/api.ErrNone", laid_pledge_api_ErrNone), ("pledge/api.ErrThere", laid_pledge_api_ErrThere), ("pledge/api.ErrFull", laid_pledge_api_ErrFull), ("pledge/api.ErrCrash", laid_pledge_api_ErrCrash), ("pledge/api.ErrTwice", laid_pledge_api_ErrTwice), ("pledge/api.ErrKind", laid_pledge_api_ErrKind), ("pledge/api.ErrBarred", laid_pledge_api_ErrBarred), ("pledge/api.ErrShort", laid_pledge_api_ErrShort), ("pledge/api.ErrBreach", laid_pledge_api_ErrBreach), ("pledge/api.ErrNeed", laid_pledge_api_ErrNeed), ("pledge/api.ErrBound", laid_pledge_api_ErrBound), ("pledge/api.ErrDay", laid_pledge_api_ErrDay), ("pledge/api.ErrWord", laid_pledge_api_ErrWord), ("pledge/api.ErrNumber", laid_pledge_api_ErrNumber), ("pledge/api.ErrBudget", laid_pledge_api_ErrBudget), ("pledge/api.ErrNothing", laid_pledge_api_ErrNothing)], narrowed := true }
def AssetOrderUptoSaid : Prop := assetOrderUptoRow.holds Tryd.pinned (OpenSpec.upto assetOrderSpec)

/-- 'pledgelaw10.AssetPlays', WHERE WHAT IT READS IS OF BULK AT MOST 1048576: true; the input reads as it did. -/
def assetPlaysUptoRow : OpenClaim := { program := "ytclhajcphnpgjaadoor", sum := "a8dfc3e6da4b5564d6451a9839a728ffab66f68d01ea3704588536e980fb801f", func := "pledge/pledgelaw10.AssetPlays", spec := "assetPlays", unfollowed := true, recurses := true, named := ["pledge/api.ErrRange", "pledge/api.ErrEnd", "pledge/api.ErrShape", "pledge/api.ErrOver", "pledge/api.ErrMany", "pledge/api.ErrNone", "pledge/api.ErrThere", "pledge/api.ErrFull", "pledge/api.ErrCrash", "pledge/api.ErrTwice", "pledge/api.ErrKind", "pledge/api.ErrBarred", "pledge/api.ErrShort", "pledge/api.ErrBreach", "pledge/api.ErrNeed", "pledge/api.ErrBound", "pledge/api.ErrDay", "pledge/api.ErrWord", "pledge/api.ErrNumber", "pledge/api.ErrBudget", "pledge/api.ErrNothing"], plainKeys := false, apart := false, laid := [("pledge/api.ErrEnd", laid_pledge_api_ErrEnd), ("pledge/api.ErrShape", laid_pledge_api_ErrShape), ("pledge/api.ErrRange", laid_pledge_api_ErrRange), ("pledge/api.ErrOver", laid_pledge_api_ErrOver), ("pledge/api.ErrMany", laid_pledge_api_ErrMany), ("pledge/api.ErrNone", laid_pledge_api_ErrNone), ("pledge/api.ErrThere", laid_pledge_api_ErrThere), ("pledge/api.ErrFull", laid_pledge_api_ErrFull), ("pledge/api.ErrCrash", laid_pledge_api_ErrCrash), ("pledge/api.ErrTwice", laid_pledge_api_ErrTwice), ("pledge/api.ErrKind", laid_pledge_api_ErrKind), ("pledge/api.ErrBarred", laid_pledge_api_ErrBarred), ("pledge/api.ErrShort", laid_pledge_api_ErrShort), ("pledge/api.ErrBreach", laid_pledge_api_ErrBreach), ("pledge/api.ErrNeed", laid_pledge_api_ErrNeed), ("pledge/api.ErrBound", laid_pledge_api_ErrBound), ("pledge/api.ErrDay", laid_pledge_api_ErrDay), ("pledge/api.ErrWord", laid_pledge_api_ErrWord), ("pledge/api.ErrNumber", laid_pledge_api_ErrNumber), ("pledge/api.ErrBudget", laid_pledge_api_ErrBudget), ("pledge/api.ErrNothing", laid_pledge_api_ErrNothing)], narrowed := true }
def AssetPlaysUptoSaid : Prop := assetPlaysUptoRow.holds Tryd.pinned (OpenSpec.upto assetPlaysSpec)

/-- 'pledgelaw14.HoldSums', WHERE WHAT IT READS IS OF BULK AT MOST 1048576: true; the input reads as it did. -/
def holdSumsUptoRow : OpenClaim := { program := "ytclhajcphnpgjaadoor", sum := "a8dfc3e6da4b5564d6451a9839a728ffab66f68d01ea3704588536e980fb801f", func := "pledge/pledgelaw14.HoldSums", spec := "holdSums", unfollowed := true, recurses := true, named := ["pledge/api.ErrShort", "pledge/api.ErrRange", "pledge/api.ErrEnd", "pledge/api.ErrShape", "pledge/api.ErrOver", "pledge/api.ErrMany", "pledge/api.ErrNone", "pledge/api.ErrThere", "pledge/api.ErrFull", "pledge/api.ErrCrash", "pledge/api.ErrTwice", "pledge/api.ErrKind", "pledge/api.ErrBarred", "pledge/api.ErrBreach", "pledge/api.ErrNeed", "pledge/api.ErrBound", "pledge/api.ErrDay", "pledge/api.ErrWord", "pledge/api.ErrNumber", "pledge/api.ErrBudget", "pledge/api.ErrNothing"], plainKeys := false, apart := false, laid := [("pledge/api.ErrEnd", laid_pledge_api_ErrEnd), ("pledge/api.ErrShape", laid_pledge_api_ErrShape), ("pledge/api.ErrRange", laid_pledge_api_ErrRange), ("pledge/api.ErrOver", laid_pledge_api_ErrOver), ("pledge/api.ErrMany", laid_pledge_api_ErrMany), ("pledge/api.ErrNone", laid_pledge_api_ErrNone), ("pledge/api.ErrThere", laid_pledge_api_ErrThere), ("pledge/api.ErrFull", laid_pledge_api_ErrFull), ("pledge/api.ErrCrash", laid_pledge_api_ErrCrash), ("pledge/api.ErrTwice", laid_pledge_api_ErrTwice), ("pledge/api.ErrKind", laid_pledge_api_ErrKind), ("pledge/api.ErrBarred", laid_pledge_api_ErrBarred), ("pledge/api.ErrShort", laid_pledge_api_ErrShort), ("pledge/api.ErrBreach", laid_pledge_api_ErrBreach), ("pledge/api.ErrNeed", laid_pledge_api_ErrNeed), ("pledge/api.ErrBound", laid_pledge_api_ErrBound), ("pledge/api.ErrDay", laid_pledge_api_ErrDay), ("pledge/api.ErrWord", laid_pledge_api_ErrWord), ("pledge/api.ErrNumber", laid_pledge_api_ErrNumber), ("pledge/api.ErrBudget", laid_pledge_api_ErrBudget), ("pledge/api.ErrNothing", laid_pledge_api_ErrNothing)], narrowed := true }
def HoldSumsUptoSaid : Prop := holdSumsUptoRow.holds Tryd.pinned (OpenSpec.upto holdSumsSpec)

end Rows
end Go.Proofs.YtclhajcphnpgjaaDoor
