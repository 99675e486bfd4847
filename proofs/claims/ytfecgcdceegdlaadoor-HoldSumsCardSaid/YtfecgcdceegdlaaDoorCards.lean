/-
  DERIVED. GIVEN WITH THE SEED: THE CARDS: each row of YtfecgcdceegdlaaDoorRows.lean that lists a variable, with what it lists TIED to the program's text (the seventh form; the later family's looks); each row that meets fmt, with fmt's text TOLD by the authors' own Lean function (tested against real Go, not proved from fmt's source: count such statements apart). THE CARD IS WHAT COUNTS. Prove the row's statement (the work); the ties are given (YtfecgcdceegdlaaDoorTie.lean); close each card by the builder's one call (the guide's Derived/Test/ToyasCard.lean, 'card_holds'). Laid BY PROGRAM, IN A SANDBOX (cutbox-door.mjs). By AI agents, Wed Nov 11 2026. No macro, syntax, notation, axiom, sorry.
-/
import Derived.Test.YtfecgcdceegdlaaDoorRows
import GoSem.ClaimSeven
namespace Go.Proofs.YtfecgcdceegdlaaDoor
namespace Rows

/-- THE TIED CARD OF 'pledgelaw10.AssetOrder'. -/
def assetOrderCard : Claim7 := { stood := { row := assetOrderRow, standIns := [], harness := (true, "44e8a4ef334e2ea09da434df0f8ec51be9376a366e0373ca595f1b3df0bef5a1"), looks := true }, kinds := [], alts := [], laidByText := true, laidKinds := [.sentinel, .sentinel, .sentinel, .sentinel, .sentinel, .sentinel, .sentinel, .sentinel, .sentinel, .sentinel, .sentinel, .sentinel, .sentinel, .sentinel, .sentinel, .sentinel, .sentinel, .sentinel, .sentinel, .sentinel, .sentinel], laidTests := true, laidLooks := .later }
def AssetOrderCardSaid : Prop := Claim7.holds Tryd.pinned (.plain (OpenSpec.ofChange assetOrderSpec)) assetOrderCard

/-- THE TIED CARD OF 'pledgelaw10.AssetPlays'. -/
def assetPlaysCard : Claim7 := { stood := { row := assetPlaysRow, standIns := [], harness := (true, "44e8a4ef334e2ea09da434df0f8ec51be9376a366e0373ca595f1b3df0bef5a1"), looks := true }, kinds := [], alts := [], laidByText := true, laidKinds := [.sentinel, .sentinel, .sentinel, .sentinel, .sentinel, .sentinel, .sentinel, .sentinel, .sentinel, .sentinel, .sentinel, .sentinel, .sentinel, .sentinel, .sentinel, .sentinel, .sentinel, .sentinel, .sentinel, .sentinel, .sentinel], laidTests := true, laidLooks := .later }
def AssetPlaysCardSaid : Prop := Claim7.holds Tryd.pinned (.plain (OpenSpec.ofChange assetPlaysSpec)) assetPlaysCard

/-- THE TIED CARD OF 'pledgelaw14.HoldSums'. -/
def holdSumsCard : Claim7 := { stood := { row := holdSumsRow, standIns := [], harness := (true, "44e8a4ef334e2ea09da434df0f8ec51be9376a366e0373ca595f1b3df0bef5a1"), looks := true }, kinds := [], alts := [], laidByText := true, laidKinds := [.sentinel, .sentinel, .sentinel, .sentinel, .sentinel, .sentinel, .sentinel, .sentinel, .sentinel, .sentinel, .sentinel, .sentinel, .sentinel, .sentinel, .sentinel, .sentinel, .sentinel, .sentinel, .sentinel, .sentinel, .sentinel], laidTests := true, laidLooks := .later }
def HoldSumsCardSaid : Prop := Claim7.holds Tryd.pinned (.plain (OpenSpec.ofChange holdSumsSpec)) holdSumsCard

/-- THE TIED CARD OF 'pledgelaw14.HoldBack'. -/
def holdBackCard : Claim7 := { stood := { row := holdBackRow, standIns := [], harness := (true, "44e8a4ef334e2ea09da434df0f8ec51be9376a366e0373ca595f1b3df0bef5a1"), looks := true }, kinds := [], alts := [], laidByText := true, laidKinds := [.sentinel, .sentinel, .sentinel, .sentinel, .sentinel, .sentinel, .sentinel, .sentinel, .sentinel, .sentinel, .sentinel, .sentinel, .sentinel, .sentinel, .sentinel, .sentinel, .sentinel, .sentinel, .sentinel, .sentinel, .sentinel], laidTests := true, laidLooks := .later }
def HoldBackCardSaid : Prop := Claim7.holds Tryd.pinned (.plain (OpenSpec.ofChange holdBackSpec)) holdBackCard

/-- THE TIED CARD OF 'pledgelaw12.CutSteps'. -/
def cutStepsCard : Claim7 := { stood := { row := cutStepsRow, standIns := [], harness := (true, "44e8a4ef334e2ea09da434df0f8ec51be9376a366e0373ca595f1b3df0bef5a1"), looks := true }, kinds := [], alts := [], laidByText := true, laidKinds := [.sentinel], laidTests := true, laidLooks := .later }
def CutStepsCardSaid : Prop := Claim7.holds Tryd.pinned (.plain (OpenSpec.ofChange cutStepsSpec)) cutStepsCard

/-- THE TIED CARD OF 'pledgelaw12.CutPlays'. -/
def cutPlaysCard : Claim7 := { stood := { row := cutPlaysRow, standIns := [], harness := (true, "44e8a4ef334e2ea09da434df0f8ec51be9376a366e0373ca595f1b3df0bef5a1"), looks := true }, kinds := [], alts := [], laidByText := true, laidKinds := [.sentinel, .sentinel, .sentinel, .sentinel, .sentinel, .sentinel, .sentinel, .sentinel, .sentinel, .sentinel, .sentinel, .sentinel, .sentinel, .sentinel, .sentinel, .sentinel, .sentinel, .sentinel, .sentinel, .sentinel, .sentinel], laidTests := true, laidLooks := .later }
def CutPlaysCardSaid : Prop := Claim7.holds Tryd.pinned (.plain (OpenSpec.ofChange cutPlaysSpec)) cutPlaysCard

/-- THE TIED CARD OF 'pledgelaw6.RootBytes'. -/
def rootBytesCard : Claim7 := { stood := { row := rootBytesRow, standIns := [], harness := (true, "44e8a4ef334e2ea09da434df0f8ec51be9376a366e0373ca595f1b3df0bef5a1"), looks := true }, kinds := [], alts := [], laidByText := true, laidKinds := [.sentinel, .sentinel, .sentinel, .sentinel, .sentinel, .sentinel, .sentinel, .sentinel, .sentinel, .sentinel, .sentinel, .sentinel, .sentinel, .sentinel, .sentinel, .sentinel, .sentinel, .sentinel, .sentinel, .sentinel, .sentinel], laidTests := true, laidLooks := .later }
def RootBytesCardSaid : Prop := Claim7.holds Tryd.pinned (.plain (OpenSpec.ofChange rootBytesSpec)) rootBytesCard

/-- THE TIED CARD OF 'pledgelaw6.RootTears'. -/
def rootTearsCard : Claim7 := { stood := { row := rootTearsRow, standIns := [], harness := (true, "44e8a4ef334e2ea09da434df0f8ec51be9376a366e0373ca595f1b3df0bef5a1"), looks := true }, kinds := [], alts := [], laidByText := true, laidKinds := [.sentinel, .sentinel, .sentinel, .sentinel, .sentinel], laidTests := true, laidLooks := .later }
def RootTearsCardSaid : Prop := Claim7.holds Tryd.pinned (.plain (OpenSpec.ofChange rootTearsSpec)) rootTearsCard

/-- THE TIED CARD OF 'pledgelaw6.RootGreater'. -/
def rootGreaterCard : Claim7 := { stood := { row := rootGreaterRow, standIns := [], harness := (true, "44e8a4ef334e2ea09da434df0f8ec51be9376a366e0373ca595f1b3df0bef5a1"), looks := true }, kinds := [], alts := [], laidByText := true, laidKinds := [.sentinel, .sentinel, .sentinel, .sentinel, .sentinel, .sentinel, .sentinel, .sentinel, .sentinel, .sentinel, .sentinel, .sentinel, .sentinel, .sentinel, .sentinel, .sentinel, .sentinel, .sentinel, .sentinel, .sentinel, .sentinel], laidTests := true, laidLooks := .later }
def RootGreaterCardSaid : Prop := Claim7.holds Tryd.pinned (.plain (OpenSpec.ofChange rootGreaterSpec)) rootGreaterCard

/-- THE TIED CARD OF 'pledgelaw5.DiskShapes'. -/
def diskShapesCard : Claim7 := { stood := { row := diskShapesRow, standIns := [], harness := (true, "44e8a4ef334e2ea09da434df0f8ec51be9376a366e0373ca595f1b3df0bef5a1"), looks := true }, kinds := [], alts := [], laidByText := true, laidKinds := [.sentinel, .sentinel, .sentinel, .sentinel, .sentinel, .sentinel, .sentinel, .sentinel, .sentinel, .sentinel, .sentinel, .sentinel, .sentinel, .sentinel, .sentinel, .sentinel, .sentinel, .sentinel, .sentinel, .sentinel, .sentinel], laidTests := true, laidLooks := .later }
def DiskShapesCardSaid : Prop := Claim7.holds Tryd.pinned (.plain (OpenSpec.ofChange diskShapesSpec)) diskShapesCard

/-- THE TIED CARD OF 'pledgelaw5.DiskTears'. -/
def diskTearsCard : Claim7 := { stood := { row := diskTearsRow, standIns := [], harness := (true, "44e8a4ef334e2ea09da434df0f8ec51be9376a366e0373ca595f1b3df0bef5a1"), looks := true }, kinds := [], alts := [], laidByText := true, laidKinds := [.sentinel, .sentinel, .sentinel, .sentinel], laidTests := true, laidLooks := .later }
def DiskTearsCardSaid : Prop := Claim7.holds Tryd.pinned (.plain (OpenSpec.ofChange diskTearsSpec)) diskTearsCard

/-- THE TIED CARD OF 'pledgelaw5.DiskArms'. -/
def diskArmsCard : Claim7 := { stood := { row := diskArmsRow, standIns := [], harness := (true, "44e8a4ef334e2ea09da434df0f8ec51be9376a366e0373ca595f1b3df0bef5a1"), looks := true }, kinds := [], alts := [], laidByText := true, laidKinds := [.sentinel, .sentinel, .sentinel, .sentinel, .sentinel, .sentinel, .sentinel, .sentinel, .sentinel, .sentinel, .sentinel, .sentinel, .sentinel, .sentinel, .sentinel, .sentinel, .sentinel, .sentinel, .sentinel, .sentinel, .sentinel], laidTests := true, laidLooks := .later }
def DiskArmsCardSaid : Prop := Claim7.holds Tryd.pinned (.plain (OpenSpec.ofChange diskArmsSpec)) diskArmsCard

/-- THE SECOND FORM's CARD OF 'pledgelaw10.AssetOrder'. -/
def assetOrderUptoCard : Claim7 := { stood := { row := assetOrderUptoRow, standIns := [], harness := (true, "44e8a4ef334e2ea09da434df0f8ec51be9376a366e0373ca595f1b3df0bef5a1"), looks := true }, kinds := [], alts := [], laidByText := true, laidKinds := [.sentinel, .sentinel, .sentinel, .sentinel, .sentinel, .sentinel, .sentinel, .sentinel, .sentinel, .sentinel, .sentinel, .sentinel, .sentinel, .sentinel, .sentinel, .sentinel, .sentinel, .sentinel, .sentinel, .sentinel, .sentinel], laidTests := true, laidLooks := .later }
def AssetOrderUptoCardSaid : Prop := Claim7.holds Tryd.pinned (.plain (OpenSpec.upto assetOrderSpec)) assetOrderUptoCard

/-- THE SECOND FORM's CARD OF 'pledgelaw10.AssetPlays'. -/
def assetPlaysUptoCard : Claim7 := { stood := { row := assetPlaysUptoRow, standIns := [], harness := (true, "44e8a4ef334e2ea09da434df0f8ec51be9376a366e0373ca595f1b3df0bef5a1"), looks := true }, kinds := [], alts := [], laidByText := true, laidKinds := [.sentinel, .sentinel, .sentinel, .sentinel, .sentinel, .sentinel, .sentinel, .sentinel, .sentinel, .sentinel, .sentinel, .sentinel, .sentinel, .sentinel, .sentinel, .sentinel, .sentinel, .sentinel, .sentinel, .sentinel, .sentinel], laidTests := true, laidLooks := .later }
def AssetPlaysUptoCardSaid : Prop := Claim7.holds Tryd.pinned (.plain (OpenSpec.upto assetPlaysSpec)) assetPlaysUptoCard

/-- THE SECOND FORM's CARD OF 'pledgelaw14.HoldSums'. -/
def holdSumsUptoCard : Claim7 := { stood := { row := holdSumsUptoRow, standIns := [], harness := (true, "44e8a4ef334e2ea09da434df0f8ec51be9376a366e0373ca595f1b3df0bef5a1"), looks := true }, kinds := [], alts := [], laidByText := true, laidKinds := [.sentinel, .sentinel, .sentinel, .sentinel, .sentinel, .sentinel, .sentinel, .sentinel, .sentinel, .sentinel, .sentinel, .sentinel, .sentinel, .sentinel, .sentinel, .sentinel, .sentinel, .sentinel, .sentinel, .sentinel, .sentinel], laidTests := true, laidLooks := .later }
def HoldSumsUptoCardSaid : Prop := Claim7.holds Tryd.pinned (.plain (OpenSpec.upto holdSumsSpec)) holdSumsUptoCard

/-- THE SECOND FORM's CARD OF 'pledgelaw14.HoldBack'. -/
def holdBackUptoCard : Claim7 := { stood := { row := holdBackUptoRow, standIns := [], harness := (true, "44e8a4ef334e2ea09da434df0f8ec51be9376a366e0373ca595f1b3df0bef5a1"), looks := true }, kinds := [], alts := [], laidByText := true, laidKinds := [.sentinel, .sentinel, .sentinel, .sentinel, .sentinel, .sentinel, .sentinel, .sentinel, .sentinel, .sentinel, .sentinel, .sentinel, .sentinel, .sentinel, .sentinel, .sentinel, .sentinel, .sentinel, .sentinel, .sentinel, .sentinel], laidTests := true, laidLooks := .later }
def HoldBackUptoCardSaid : Prop := Claim7.holds Tryd.pinned (.plain (OpenSpec.upto holdBackSpec)) holdBackUptoCard

/-- THE SECOND FORM's CARD OF 'pledgelaw12.CutSteps'. -/
def cutStepsUptoCard : Claim7 := { stood := { row := cutStepsUptoRow, standIns := [], harness := (true, "44e8a4ef334e2ea09da434df0f8ec51be9376a366e0373ca595f1b3df0bef5a1"), looks := true }, kinds := [], alts := [], laidByText := true, laidKinds := [.sentinel], laidTests := true, laidLooks := .later }
def CutStepsUptoCardSaid : Prop := Claim7.holds Tryd.pinned (.plain (OpenSpec.upto cutStepsSpec)) cutStepsUptoCard

/-- THE SECOND FORM's CARD OF 'pledgelaw12.CutPlays'. -/
def cutPlaysUptoCard : Claim7 := { stood := { row := cutPlaysUptoRow, standIns := [], harness := (true, "44e8a4ef334e2ea09da434df0f8ec51be9376a366e0373ca595f1b3df0bef5a1"), looks := true }, kinds := [], alts := [], laidByText := true, laidKinds := [.sentinel, .sentinel, .sentinel, .sentinel, .sentinel, .sentinel, .sentinel, .sentinel, .sentinel, .sentinel, .sentinel, .sentinel, .sentinel, .sentinel, .sentinel, .sentinel, .sentinel, .sentinel, .sentinel, .sentinel, .sentinel], laidTests := true, laidLooks := .later }
def CutPlaysUptoCardSaid : Prop := Claim7.holds Tryd.pinned (.plain (OpenSpec.upto cutPlaysSpec)) cutPlaysUptoCard

/-- THE SECOND FORM's CARD OF 'pledgelaw6.RootBytes'. -/
def rootBytesUptoCard : Claim7 := { stood := { row := rootBytesUptoRow, standIns := [], harness := (true, "44e8a4ef334e2ea09da434df0f8ec51be9376a366e0373ca595f1b3df0bef5a1"), looks := true }, kinds := [], alts := [], laidByText := true, laidKinds := [.sentinel, .sentinel, .sentinel, .sentinel, .sentinel, .sentinel, .sentinel, .sentinel, .sentinel, .sentinel, .sentinel, .sentinel, .sentinel, .sentinel, .sentinel, .sentinel, .sentinel, .sentinel, .sentinel, .sentinel, .sentinel], laidTests := true, laidLooks := .later }
def RootBytesUptoCardSaid : Prop := Claim7.holds Tryd.pinned (.plain (OpenSpec.upto rootBytesSpec)) rootBytesUptoCard

/-- THE SECOND FORM's CARD OF 'pledgelaw6.RootTears'. -/
def rootTearsUptoCard : Claim7 := { stood := { row := rootTearsUptoRow, standIns := [], harness := (true, "44e8a4ef334e2ea09da434df0f8ec51be9376a366e0373ca595f1b3df0bef5a1"), looks := true }, kinds := [], alts := [], laidByText := true, laidKinds := [.sentinel, .sentinel, .sentinel, .sentinel, .sentinel], laidTests := true, laidLooks := .later }
def RootTearsUptoCardSaid : Prop := Claim7.holds Tryd.pinned (.plain (OpenSpec.upto rootTearsSpec)) rootTearsUptoCard

/-- THE SECOND FORM's CARD OF 'pledgelaw6.RootGreater'. -/
def rootGreaterUptoCard : Claim7 := { stood := { row := rootGreaterUptoRow, standIns := [], harness := (true, "44e8a4ef334e2ea09da434df0f8ec51be9376a366e0373ca595f1b3df0bef5a1"), looks := true }, kinds := [], alts := [], laidByText := true, laidKinds := [.sentinel, .sentinel, .sentinel, .sentinel, .sentinel, .sentinel, .sentinel, .sentinel, .sentinel, .sentinel, .sentinel, .sentinel, .sentinel, .sentinel, .sentinel, .sentinel, .sentinel, .sentinel, .sentinel, .sentinel, .sentinel], laidTests := true, laidLooks := .later }
def RootGreaterUptoCardSaid : Prop := Claim7.holds Tryd.pinned (.plain (OpenSpec.upto rootGreaterSpec)) rootGreaterUptoCard

/-- THE SECOND FORM's CARD OF 'pledgelaw5.DiskShapes'. -/
def diskShapesUptoCard : Claim7 := { stood := { row := diskShapesUptoRow, standIns := [], harness := (true, "44e8a4ef334e2ea09da434df0f8ec51be9376a366e0373ca595f1b3df0bef5a1"), looks := true }, kinds := [], alts := [], laidByText := true, laidKinds := [.sentinel, .sentinel, .sentinel, .sentinel, .sentinel, .sentinel, .sentinel, .sentinel, .sentinel, .sentinel, .sentinel, .sentinel, .sentinel, .sentinel, .sentinel, .sentinel, .sentinel, .sentinel, .sentinel, .sentinel, .sentinel], laidTests := true, laidLooks := .later }
def DiskShapesUptoCardSaid : Prop := Claim7.holds Tryd.pinned (.plain (OpenSpec.upto diskShapesSpec)) diskShapesUptoCard

/-- THE SECOND FORM's CARD OF 'pledgelaw5.DiskTears'. -/
def diskTearsUptoCard : Claim7 := { stood := { row := diskTearsUptoRow, standIns := [], harness := (true, "44e8a4ef334e2ea09da434df0f8ec51be9376a366e0373ca595f1b3df0bef5a1"), looks := true }, kinds := [], alts := [], laidByText := true, laidKinds := [.sentinel, .sentinel, .sentinel, .sentinel], laidTests := true, laidLooks := .later }
def DiskTearsUptoCardSaid : Prop := Claim7.holds Tryd.pinned (.plain (OpenSpec.upto diskTearsSpec)) diskTearsUptoCard

/-- THE SECOND FORM's CARD OF 'pledgelaw5.DiskArms'. -/
def diskArmsUptoCard : Claim7 := { stood := { row := diskArmsUptoRow, standIns := [], harness := (true, "44e8a4ef334e2ea09da434df0f8ec51be9376a366e0373ca595f1b3df0bef5a1"), looks := true }, kinds := [], alts := [], laidByText := true, laidKinds := [.sentinel, .sentinel, .sentinel, .sentinel, .sentinel, .sentinel, .sentinel, .sentinel, .sentinel, .sentinel, .sentinel, .sentinel, .sentinel, .sentinel, .sentinel, .sentinel, .sentinel, .sentinel, .sentinel, .sentinel, .sentinel], laidTests := true, laidLooks := .later }
def DiskArmsUptoCardSaid : Prop := Claim7.holds Tryd.pinned (.plain (OpenSpec.upto diskArmsSpec)) diskArmsUptoCard
end Rows
end Go.Proofs.YtfecgcdceegdlaaDoor
