/-
  DERIVED. GIVEN WITH THE SEED: THE CARDS: each row of YtehacchacgfjlaaDoorRows.lean that lists a variable, with what it lists TIED to the program's text (the seventh form; the later family's looks); each row that meets fmt, with fmt's text TOLD by the authors' own Lean function (tested against real Go, not proved from fmt's source: count such statements apart). THE CARD IS WHAT COUNTS. Prove the row's statement (the work); the ties are given (YtehacchacgfjlaaDoorTie.lean); close each card by the builder's one call (the guide's Derived/Test/ToyasCard.lean, 'card_holds'). Laid BY PROGRAM, IN A SANDBOX (cutbox-door.mjs). By AI agents, Wed Nov 11 2026. No macro, syntax, notation, axiom, sorry.
-/
import Derived.Test.YtehacchacgfjlaaDoorRows
import GoSem.ClaimSeven
namespace Go.Proofs.YtehacchacgfjlaaDoor
namespace Rows

/-- THE TIED CARD OF 'pledgelaw5.DiskShapes'. -/
def diskShapesCard : Claim7 := { stood := { row := diskShapesRow, standIns := [], harness := (true, "a4b46f66786c79921d0327501fd84238a013209cd901e9a83f4b517d5d59f7bb"), looks := true }, kinds := [], alts := [], laidByText := true, laidKinds := [.sentinel, .sentinel, .sentinel, .sentinel, .sentinel, .sentinel, .sentinel, .sentinel, .sentinel, .sentinel, .sentinel, .sentinel, .sentinel, .sentinel, .sentinel, .sentinel, .sentinel, .sentinel, .sentinel, .sentinel, .sentinel], laidTests := true, laidLooks := .later }
def DiskShapesCardSaid : Prop := Claim7.holds Tryd.pinned (.plain (OpenSpec.ofChange diskShapesSpec)) diskShapesCard

/-- THE TIED CARD OF 'pledgelaw5.DiskTears'. -/
def diskTearsCard : Claim7 := { stood := { row := diskTearsRow, standIns := [], harness := (true, "a4b46f66786c79921d0327501fd84238a013209cd901e9a83f4b517d5d59f7bb"), looks := true }, kinds := [], alts := [], laidByText := true, laidKinds := [.sentinel, .sentinel, .sentinel, .sentinel], laidTests := true, laidLooks := .later }
def DiskTearsCardSaid : Prop := Claim7.holds Tryd.pinned (.plain (OpenSpec.ofChange diskTearsSpec)) diskTearsCard

/-- THE TIED CARD OF 'pledgelaw5.DiskArms'. -/
def diskArmsCard : Claim7 := { stood := { row := diskArmsRow, standIns := [], harness := (true, "a4b46f66786c79921d0327501fd84238a013209cd901e9a83f4b517d5d59f7bb"), looks := true }, kinds := [], alts := [], laidByText := true, laidKinds := [.sentinel, .sentinel, .sentinel, .sentinel, .sentinel, .sentinel, .sentinel, .sentinel, .sentinel, .sentinel, .sentinel, .sentinel, .sentinel, .sentinel, .sentinel, .sentinel, .sentinel, .sentinel, .sentinel, .sentinel, .sentinel], laidTests := true, laidLooks := .later }
def DiskArmsCardSaid : Prop := Claim7.holds Tryd.pinned (.plain (OpenSpec.ofChange diskArmsSpec)) diskArmsCard

/-- THE TIED CARD OF 'pledgelaw5.DiskKeeps'. -/
def diskKeepsCard : Claim7 := { stood := { row := diskKeepsRow, standIns := [], harness := (true, "a4b46f66786c79921d0327501fd84238a013209cd901e9a83f4b517d5d59f7bb"), looks := true }, kinds := [], alts := [], laidByText := true, laidKinds := [.sentinel, .sentinel, .sentinel, .sentinel], laidTests := true, laidLooks := .later }
def DiskKeepsCardSaid : Prop := Claim7.holds Tryd.pinned (.plain (OpenSpec.ofChange diskKeepsSpec)) diskKeepsCard

/-- THE TIED CARD OF 'pledgelaw5.DiskTwins'. -/
def diskTwinsCard : Claim7 := { stood := { row := diskTwinsRow, standIns := [], harness := (true, "a4b46f66786c79921d0327501fd84238a013209cd901e9a83f4b517d5d59f7bb"), looks := true }, kinds := [], alts := [], laidByText := true, laidKinds := [.sentinel, .sentinel, .sentinel, .sentinel], laidTests := true, laidLooks := .later }
def DiskTwinsCardSaid : Prop := Claim7.holds Tryd.pinned (.plain (OpenSpec.ofChange diskTwinsSpec)) diskTwinsCard

/-- THE TIED CARD OF 'pledgelaw6.RootBytes'. -/
def rootBytesCard : Claim7 := { stood := { row := rootBytesRow, standIns := [], harness := (true, "a4b46f66786c79921d0327501fd84238a013209cd901e9a83f4b517d5d59f7bb"), looks := true }, kinds := [], alts := [], laidByText := true, laidKinds := [.sentinel, .sentinel, .sentinel, .sentinel, .sentinel, .sentinel, .sentinel, .sentinel, .sentinel, .sentinel, .sentinel, .sentinel, .sentinel, .sentinel, .sentinel, .sentinel, .sentinel, .sentinel, .sentinel, .sentinel, .sentinel], laidTests := true, laidLooks := .later }
def RootBytesCardSaid : Prop := Claim7.holds Tryd.pinned (.plain (OpenSpec.ofChange rootBytesSpec)) rootBytesCard

/-- THE TIED CARD OF 'pledgelaw6.RootTears'. -/
def rootTearsCard : Claim7 := { stood := { row := rootTearsRow, standIns := [], harness := (true, "a4b46f66786c79921d0327501fd84238a013209cd901e9a83f4b517d5d59f7bb"), looks := true }, kinds := [], alts := [], laidByText := true, laidKinds := [.sentinel, .sentinel, .sentinel, .sentinel, .sentinel], laidTests := true, laidLooks := .later }
def RootTearsCardSaid : Prop := Claim7.holds Tryd.pinned (.plain (OpenSpec.ofChange rootTearsSpec)) rootTearsCard

/-- THE TIED CARD OF 'pledgelaw6.RootGreater'. -/
def rootGreaterCard : Claim7 := { stood := { row := rootGreaterRow, standIns := [], harness := (true, "a4b46f66786c79921d0327501fd84238a013209cd901e9a83f4b517d5d59f7bb"), looks := true }, kinds := [], alts := [], laidByText := true, laidKinds := [.sentinel, .sentinel, .sentinel, .sentinel, .sentinel, .sentinel, .sentinel, .sentinel, .sentinel, .sentinel, .sentinel, .sentinel, .sentinel, .sentinel, .sentinel, .sentinel, .sentinel, .sentinel, .sentinel, .sentinel, .sentinel], laidTests := true, laidLooks := .later }
def RootGreaterCardSaid : Prop := Claim7.holds Tryd.pinned (.plain (OpenSpec.ofChange rootGreaterSpec)) rootGreaterCard

/-- THE TIED CARD OF 'pledgelaw6.RootSaves'. -/
def rootSavesCard : Claim7 := { stood := { row := rootSavesRow, standIns := [], harness := (true, "a4b46f66786c79921d0327501fd84238a013209cd901e9a83f4b517d5d59f7bb"), looks := true }, kinds := [], alts := [], laidByText := true, laidKinds := [.sentinel, .sentinel, .sentinel, .sentinel, .sentinel, .sentinel, .sentinel, .sentinel, .sentinel, .sentinel, .sentinel, .sentinel, .sentinel, .sentinel, .sentinel, .sentinel, .sentinel, .sentinel, .sentinel, .sentinel, .sentinel], laidTests := true, laidLooks := .later }
def RootSavesCardSaid : Prop := Claim7.holds Tryd.pinned (.plain (OpenSpec.ofChange rootSavesSpec)) rootSavesCard

/-- THE TIED CARD OF 'pledgelaw12.CutSteps'. -/
def cutStepsCard : Claim7 := { stood := { row := cutStepsRow, standIns := [], harness := (true, "a4b46f66786c79921d0327501fd84238a013209cd901e9a83f4b517d5d59f7bb"), looks := true }, kinds := [], alts := [], laidByText := true, laidKinds := [.sentinel], laidTests := true, laidLooks := .later }
def CutStepsCardSaid : Prop := Claim7.holds Tryd.pinned (.plain (OpenSpec.ofChange cutStepsSpec)) cutStepsCard

/-- THE TIED CARD OF 'pledgelaw12.CutPlays'. -/
def cutPlaysCard : Claim7 := { stood := { row := cutPlaysRow, standIns := [], harness := (true, "a4b46f66786c79921d0327501fd84238a013209cd901e9a83f4b517d5d59f7bb"), looks := true }, kinds := [], alts := [], laidByText := true, laidKinds := [.sentinel, .sentinel, .sentinel, .sentinel, .sentinel, .sentinel, .sentinel, .sentinel, .sentinel, .sentinel, .sentinel, .sentinel, .sentinel, .sentinel, .sentinel, .sentinel, .sentinel, .sentinel, .sentinel, .sentinel, .sentinel], laidTests := true, laidLooks := .later }
def CutPlaysCardSaid : Prop := Claim7.holds Tryd.pinned (.plain (OpenSpec.ofChange cutPlaysSpec)) cutPlaysCard

/-- THE TIED CARD OF 'pledgelaw22.StressPlays'. -/
def stressPlaysCard : Claim7 := { stood := { row := stressPlaysRow, standIns := [], harness := (true, "a4b46f66786c79921d0327501fd84238a013209cd901e9a83f4b517d5d59f7bb"), looks := true }, kinds := [], alts := [], laidByText := true, laidKinds := [.sentinel, .sentinel, .sentinel, .sentinel, .sentinel, .sentinel, .sentinel, .sentinel, .sentinel, .sentinel, .sentinel, .sentinel, .sentinel, .sentinel, .sentinel, .sentinel, .sentinel, .sentinel, .sentinel, .sentinel, .sentinel], laidTests := true, laidLooks := .later }
def StressPlaysCardSaid : Prop := Claim7.holds Tryd.pinned (.plain (OpenSpec.ofChange stressPlaysSpec)) stressPlaysCard

/-- THE SECOND FORM's CARD OF 'pledgelaw5.DiskShapes'. -/
def diskShapesUptoCard : Claim7 := { stood := { row := diskShapesUptoRow, standIns := [], harness := (true, "a4b46f66786c79921d0327501fd84238a013209cd901e9a83f4b517d5d59f7bb"), looks := true }, kinds := [], alts := [], laidByText := true, laidKinds := [.sentinel, .sentinel, .sentinel, .sentinel, .sentinel, .sentinel, .sentinel, .sentinel, .sentinel, .sentinel, .sentinel, .sentinel, .sentinel, .sentinel, .sentinel, .sentinel, .sentinel, .sentinel, .sentinel, .sentinel, .sentinel], laidTests := true, laidLooks := .later }
def DiskShapesUptoCardSaid : Prop := Claim7.holds Tryd.pinned (.plain (OpenSpec.upto diskShapesSpec)) diskShapesUptoCard

/-- THE SECOND FORM's CARD OF 'pledgelaw5.DiskTears'. -/
def diskTearsUptoCard : Claim7 := { stood := { row := diskTearsUptoRow, standIns := [], harness := (true, "a4b46f66786c79921d0327501fd84238a013209cd901e9a83f4b517d5d59f7bb"), looks := true }, kinds := [], alts := [], laidByText := true, laidKinds := [.sentinel, .sentinel, .sentinel, .sentinel], laidTests := true, laidLooks := .later }
def DiskTearsUptoCardSaid : Prop := Claim7.holds Tryd.pinned (.plain (OpenSpec.upto diskTearsSpec)) diskTearsUptoCard

/-- THE SECOND FORM's CARD OF 'pledgelaw5.DiskArms'. -/
def diskArmsUptoCard : Claim7 := { stood := { row := diskArmsUptoRow, standIns := [], harness := (true, "a4b46f66786c79921d0327501fd84238a013209cd901e9a83f4b517d5d59f7bb"), looks := true }, kinds := [], alts := [], laidByText := true, laidKinds := [.sentinel, .sentinel, .sentinel, .sentinel, .sentinel, .sentinel, .sentinel, .sentinel, .sentinel, .sentinel, .sentinel, .sentinel, .sentinel, .sentinel, .sentinel, .sentinel, .sentinel, .sentinel, .sentinel, .sentinel, .sentinel], laidTests := true, laidLooks := .later }
def DiskArmsUptoCardSaid : Prop := Claim7.holds Tryd.pinned (.plain (OpenSpec.upto diskArmsSpec)) diskArmsUptoCard

/-- THE SECOND FORM's CARD OF 'pledgelaw5.DiskKeeps'. -/
def diskKeepsUptoCard : Claim7 := { stood := { row := diskKeepsUptoRow, standIns := [], harness := (true, "a4b46f66786c79921d0327501fd84238a013209cd901e9a83f4b517d5d59f7bb"), looks := true }, kinds := [], alts := [], laidByText := true, laidKinds := [.sentinel, .sentinel, .sentinel, .sentinel], laidTests := true, laidLooks := .later }
def DiskKeepsUptoCardSaid : Prop := Claim7.holds Tryd.pinned (.plain (OpenSpec.upto diskKeepsSpec)) diskKeepsUptoCard

/-- THE SECOND FORM's CARD OF 'pledgelaw5.DiskTwins'. -/
def diskTwinsUptoCard : Claim7 := { stood := { row := diskTwinsUptoRow, standIns := [], harness := (true, "a4b46f66786c79921d0327501fd84238a013209cd901e9a83f4b517d5d59f7bb"), looks := true }, kinds := [], alts := [], laidByText := true, laidKinds := [.sentinel, .sentinel, .sentinel, .sentinel], laidTests := true, laidLooks := .later }
def DiskTwinsUptoCardSaid : Prop := Claim7.holds Tryd.pinned (.plain (OpenSpec.upto diskTwinsSpec)) diskTwinsUptoCard

/-- THE SECOND FORM's CARD OF 'pledgelaw6.RootBytes'. -/
def rootBytesUptoCard : Claim7 := { stood := { row := rootBytesUptoRow, standIns := [], harness := (true, "a4b46f66786c79921d0327501fd84238a013209cd901e9a83f4b517d5d59f7bb"), looks := true }, kinds := [], alts := [], laidByText := true, laidKinds := [.sentinel, .sentinel, .sentinel, .sentinel, .sentinel, .sentinel, .sentinel, .sentinel, .sentinel, .sentinel, .sentinel, .sentinel, .sentinel, .sentinel, .sentinel, .sentinel, .sentinel, .sentinel, .sentinel, .sentinel, .sentinel], laidTests := true, laidLooks := .later }
def RootBytesUptoCardSaid : Prop := Claim7.holds Tryd.pinned (.plain (OpenSpec.upto rootBytesSpec)) rootBytesUptoCard

/-- THE SECOND FORM's CARD OF 'pledgelaw6.RootTears'. -/
def rootTearsUptoCard : Claim7 := { stood := { row := rootTearsUptoRow, standIns := [], harness := (true, "a4b46f66786c79921d0327501fd84238a013209cd901e9a83f4b517d5d59f7bb"), looks := true }, kinds := [], alts := [], laidByText := true, laidKinds := [.sentinel, .sentinel, .sentinel, .sentinel, .sentinel], laidTests := true, laidLooks := .later }
def RootTearsUptoCardSaid : Prop := Claim7.holds Tryd.pinned (.plain (OpenSpec.upto rootTearsSpec)) rootTearsUptoCard

/-- THE SECOND FORM's CARD OF 'pledgelaw6.RootGreater'. -/
def rootGreaterUptoCard : Claim7 := { stood := { row := rootGreaterUptoRow, standIns := [], harness := (true, "a4b46f66786c79921d0327501fd84238a013209cd901e9a83f4b517d5d59f7bb"), looks := true }, kinds := [], alts := [], laidByText := true, laidKinds := [.sentinel, .sentinel, .sentinel, .sentinel, .sentinel, .sentinel, .sentinel, .sentinel, .sentinel, .sentinel, .sentinel, .sentinel, .sentinel, .sentinel, .sentinel, .sentinel, .sentinel, .sentinel, .sentinel, .sentinel, .sentinel], laidTests := true, laidLooks := .later }
def RootGreaterUptoCardSaid : Prop := Claim7.holds Tryd.pinned (.plain (OpenSpec.upto rootGreaterSpec)) rootGreaterUptoCard

/-- THE SECOND FORM's CARD OF 'pledgelaw6.RootSaves'. -/
def rootSavesUptoCard : Claim7 := { stood := { row := rootSavesUptoRow, standIns := [], harness := (true, "a4b46f66786c79921d0327501fd84238a013209cd901e9a83f4b517d5d59f7bb"), looks := true }, kinds := [], alts := [], laidByText := true, laidKinds := [.sentinel, .sentinel, .sentinel, .sentinel, .sentinel, .sentinel, .sentinel, .sentinel, .sentinel, .sentinel, .sentinel, .sentinel, .sentinel, .sentinel, .sentinel, .sentinel, .sentinel, .sentinel, .sentinel, .sentinel, .sentinel], laidTests := true, laidLooks := .later }
def RootSavesUptoCardSaid : Prop := Claim7.holds Tryd.pinned (.plain (OpenSpec.upto rootSavesSpec)) rootSavesUptoCard

/-- THE SECOND FORM's CARD OF 'pledgelaw12.CutSteps'. -/
def cutStepsUptoCard : Claim7 := { stood := { row := cutStepsUptoRow, standIns := [], harness := (true, "a4b46f66786c79921d0327501fd84238a013209cd901e9a83f4b517d5d59f7bb"), looks := true }, kinds := [], alts := [], laidByText := true, laidKinds := [.sentinel], laidTests := true, laidLooks := .later }
def CutStepsUptoCardSaid : Prop := Claim7.holds Tryd.pinned (.plain (OpenSpec.upto cutStepsSpec)) cutStepsUptoCard

/-- THE SECOND FORM's CARD OF 'pledgelaw12.CutPlays'. -/
def cutPlaysUptoCard : Claim7 := { stood := { row := cutPlaysUptoRow, standIns := [], harness := (true, "a4b46f66786c79921d0327501fd84238a013209cd901e9a83f4b517d5d59f7bb"), looks := true }, kinds := [], alts := [], laidByText := true, laidKinds := [.sentinel, .sentinel, .sentinel, .sentinel, .sentinel, .sentinel, .sentinel, .sentinel, .sentinel, .sentinel, .sentinel, .sentinel, .sentinel, .sentinel, .sentinel, .sentinel, .sentinel, .sentinel, .sentinel, .sentinel, .sentinel], laidTests := true, laidLooks := .later }
def CutPlaysUptoCardSaid : Prop := Claim7.holds Tryd.pinned (.plain (OpenSpec.upto cutPlaysSpec)) cutPlaysUptoCard

/-- THE SECOND FORM's CARD OF 'pledgelaw22.StressPlays'. -/
def stressPlaysUptoCard : Claim7 := { stood := { row := stressPlaysUptoRow, standIns := [], harness := (true, "a4b46f66786c79921d0327501fd84238a013209cd901e9a83f4b517d5d59f7bb"), looks := true }, kinds := [], alts := [], laidByText := true, laidKinds := [.sentinel, .sentinel, .sentinel, .sentinel, .sentinel, .sentinel, .sentinel, .sentinel, .sentinel, .sentinel, .sentinel, .sentinel, .sentinel, .sentinel, .sentinel, .sentinel, .sentinel, .sentinel, .sentinel, .sentinel, .sentinel], laidTests := true, laidLooks := .later }
def StressPlaysUptoCardSaid : Prop := Claim7.holds Tryd.pinned (.plain (OpenSpec.upto stressPlaysSpec)) stressPlaysUptoCard
end Rows
end Go.Proofs.YtehacchacgfjlaaDoor
