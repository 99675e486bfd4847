/-
  DERIVED. GIVEN WITH THE SEED: THE CARDS: each row of YtcfhlndnohbclaaDoorRows.lean that lists a variable, with what it lists TIED to the program's text (the seventh form; the later family's looks); each row that meets fmt, with fmt's text TOLD by the authors' own Lean function (tested against real Go, not proved from fmt's source: count such statements apart). THE CARD IS WHAT COUNTS. Prove the row's statement (the work); the ties are given (YtcfhlndnohbclaaDoorTie.lean); close each card by the builder's one call (the guide's Derived/Test/ToyasCard.lean, 'card_holds'). Laid BY PROGRAM, IN A SANDBOX (cutbox-door.mjs). By AI agents, Wed Nov 11 2026. No macro, syntax, notation, axiom, sorry.
-/
import Derived.Test.YtcfhlndnohbclaaDoorRows
import GoSem.ClaimSeven
namespace Go.Proofs.YtcfhlndnohbclaaDoor
namespace Rows

/-- THE TIED CARD OF 'pledgelaw10.AssetEnds'. -/
def assetEndsCard : Claim7 := { stood := { row := assetEndsRow, standIns := [], harness := (true, "e40cba3c07a01f5c56d06667f612748eca45aa69373cf47e72435b568451a9e1"), looks := true }, kinds := [], alts := [], laidByText := true, laidKinds := [.sentinel, .sentinel, .sentinel, .sentinel, .sentinel, .sentinel, .sentinel, .sentinel, .sentinel, .sentinel, .sentinel, .sentinel, .sentinel, .sentinel, .sentinel, .sentinel, .sentinel, .sentinel, .sentinel, .sentinel, .sentinel], laidTests := true, laidLooks := .later }
def AssetEndsCardSaid : Prop := Claim7.holds Tryd.pinned (.plain (OpenSpec.ofChange assetEndsSpec)) assetEndsCard

/-- THE TIED CARD OF 'pledgelaw22.StressTops'. -/
def stressTopsCard : Claim7 := { stood := { row := stressTopsRow, standIns := [], harness := (true, "e40cba3c07a01f5c56d06667f612748eca45aa69373cf47e72435b568451a9e1"), looks := true }, kinds := [], alts := [], laidByText := true, laidKinds := [.sentinel, .sentinel, .sentinel], laidTests := true, laidLooks := .later }
def StressTopsCardSaid : Prop := Claim7.holds Tryd.pinned (.plain (OpenSpec.ofChange stressTopsSpec)) stressTopsCard

/-- THE TIED CARD OF 'pledgelaw12.CutEnds'. -/
def cutEndsCard : Claim7 := { stood := { row := cutEndsRow, standIns := [], harness := (true, "e40cba3c07a01f5c56d06667f612748eca45aa69373cf47e72435b568451a9e1"), looks := true }, kinds := [], alts := [], laidByText := true, laidKinds := [.sentinel], laidTests := true, laidLooks := .later }
def CutEndsCardSaid : Prop := Claim7.holds Tryd.pinned (.plain (OpenSpec.ofChange cutEndsSpec)) cutEndsCard

/-- THE TIED CARD OF 'pledgelaw12.CutBounds'. -/
def cutBoundsCard : Claim7 := { stood := { row := cutBoundsRow, standIns := [], harness := (true, "e40cba3c07a01f5c56d06667f612748eca45aa69373cf47e72435b568451a9e1"), looks := true }, kinds := [], alts := [], laidByText := true, laidKinds := [.sentinel, .sentinel, .sentinel, .sentinel, .sentinel, .sentinel, .sentinel, .sentinel, .sentinel, .sentinel, .sentinel, .sentinel, .sentinel, .sentinel, .sentinel, .sentinel, .sentinel, .sentinel, .sentinel, .sentinel, .sentinel], laidTests := true, laidLooks := .later }
def CutBoundsCardSaid : Prop := Claim7.holds Tryd.pinned (.plain (OpenSpec.ofChange cutBoundsSpec)) cutBoundsCard

/-- THE TIED CARD OF 'pledgelaw22.StressCovers'. -/
def stressCoversCard : Claim7 := { stood := { row := stressCoversRow, standIns := [], harness := (true, "e40cba3c07a01f5c56d06667f612748eca45aa69373cf47e72435b568451a9e1"), looks := true }, kinds := [], alts := [], laidByText := true, laidKinds := [.sentinel, .sentinel, .sentinel], laidTests := true, laidLooks := .later }
def StressCoversCardSaid : Prop := Claim7.holds Tryd.pinned (.plain (OpenSpec.ofChange stressCoversSpec)) stressCoversCard

/-- THE TIED CARD OF 'pledgelaw10.AssetBounds'. -/
def assetBoundsCard : Claim7 := { stood := { row := assetBoundsRow, standIns := [], harness := (true, "e40cba3c07a01f5c56d06667f612748eca45aa69373cf47e72435b568451a9e1"), looks := true }, kinds := [], alts := [], laidByText := true, laidKinds := [.sentinel, .sentinel, .sentinel, .sentinel, .sentinel, .sentinel, .sentinel, .sentinel, .sentinel, .sentinel, .sentinel, .sentinel, .sentinel, .sentinel, .sentinel, .sentinel, .sentinel, .sentinel, .sentinel, .sentinel, .sentinel], laidTests := true, laidLooks := .later }
def AssetBoundsCardSaid : Prop := Claim7.holds Tryd.pinned (.plain (OpenSpec.ofChange assetBoundsSpec)) assetBoundsCard

/-- THE TIED CARD OF 'pledgelaw10.AssetOrder'. -/
def assetOrderCard : Claim7 := { stood := { row := assetOrderRow, standIns := [], harness := (true, "e40cba3c07a01f5c56d06667f612748eca45aa69373cf47e72435b568451a9e1"), looks := true }, kinds := [], alts := [], laidByText := true, laidKinds := [.sentinel, .sentinel, .sentinel, .sentinel, .sentinel, .sentinel, .sentinel, .sentinel, .sentinel, .sentinel, .sentinel, .sentinel, .sentinel, .sentinel, .sentinel, .sentinel, .sentinel, .sentinel, .sentinel, .sentinel, .sentinel], laidTests := true, laidLooks := .later }
def AssetOrderCardSaid : Prop := Claim7.holds Tryd.pinned (.plain (OpenSpec.ofChange assetOrderSpec)) assetOrderCard

/-- THE TIED CARD OF 'pledgelaw10.AssetPlays'. -/
def assetPlaysCard : Claim7 := { stood := { row := assetPlaysRow, standIns := [], harness := (true, "e40cba3c07a01f5c56d06667f612748eca45aa69373cf47e72435b568451a9e1"), looks := true }, kinds := [], alts := [], laidByText := true, laidKinds := [.sentinel, .sentinel, .sentinel, .sentinel, .sentinel, .sentinel, .sentinel, .sentinel, .sentinel, .sentinel, .sentinel, .sentinel, .sentinel, .sentinel, .sentinel, .sentinel, .sentinel, .sentinel, .sentinel, .sentinel, .sentinel], laidTests := true, laidLooks := .later }
def AssetPlaysCardSaid : Prop := Claim7.holds Tryd.pinned (.plain (OpenSpec.ofChange assetPlaysSpec)) assetPlaysCard

/-- THE TIED CARD OF 'pledgelaw12.CutSteps'. -/
def cutStepsCard : Claim7 := { stood := { row := cutStepsRow, standIns := [], harness := (true, "e40cba3c07a01f5c56d06667f612748eca45aa69373cf47e72435b568451a9e1"), looks := true }, kinds := [], alts := [], laidByText := true, laidKinds := [.sentinel], laidTests := true, laidLooks := .later }
def CutStepsCardSaid : Prop := Claim7.holds Tryd.pinned (.plain (OpenSpec.ofChange cutStepsSpec)) cutStepsCard

/-- THE TIED CARD OF 'pledgelaw12.CutPlays'. -/
def cutPlaysCard : Claim7 := { stood := { row := cutPlaysRow, standIns := [], harness := (true, "e40cba3c07a01f5c56d06667f612748eca45aa69373cf47e72435b568451a9e1"), looks := true }, kinds := [], alts := [], laidByText := true, laidKinds := [.sentinel, .sentinel, .sentinel, .sentinel, .sentinel, .sentinel, .sentinel, .sentinel, .sentinel, .sentinel, .sentinel, .sentinel, .sentinel, .sentinel, .sentinel, .sentinel, .sentinel, .sentinel, .sentinel, .sentinel, .sentinel], laidTests := true, laidLooks := .later }
def CutPlaysCardSaid : Prop := Claim7.holds Tryd.pinned (.plain (OpenSpec.ofChange cutPlaysSpec)) cutPlaysCard

/-- THE TIED CARD OF 'pledgelaw22.StressPlays'. -/
def stressPlaysCard : Claim7 := { stood := { row := stressPlaysRow, standIns := [], harness := (true, "e40cba3c07a01f5c56d06667f612748eca45aa69373cf47e72435b568451a9e1"), looks := true }, kinds := [], alts := [], laidByText := true, laidKinds := [.sentinel, .sentinel, .sentinel, .sentinel, .sentinel, .sentinel, .sentinel, .sentinel, .sentinel, .sentinel, .sentinel, .sentinel, .sentinel, .sentinel, .sentinel, .sentinel, .sentinel, .sentinel, .sentinel, .sentinel, .sentinel], laidTests := true, laidLooks := .later }
def StressPlaysCardSaid : Prop := Claim7.holds Tryd.pinned (.plain (OpenSpec.ofChange stressPlaysSpec)) stressPlaysCard

/-- THE SECOND FORM's CARD OF 'pledgelaw10.AssetEnds'. -/
def assetEndsUptoCard : Claim7 := { stood := { row := assetEndsUptoRow, standIns := [], harness := (true, "e40cba3c07a01f5c56d06667f612748eca45aa69373cf47e72435b568451a9e1"), looks := true }, kinds := [], alts := [], laidByText := true, laidKinds := [.sentinel, .sentinel, .sentinel, .sentinel, .sentinel, .sentinel, .sentinel, .sentinel, .sentinel, .sentinel, .sentinel, .sentinel, .sentinel, .sentinel, .sentinel, .sentinel, .sentinel, .sentinel, .sentinel, .sentinel, .sentinel], laidTests := true, laidLooks := .later }
def AssetEndsUptoCardSaid : Prop := Claim7.holds Tryd.pinned (.plain (OpenSpec.upto assetEndsSpec)) assetEndsUptoCard

/-- THE SECOND FORM's CARD OF 'pledgelaw22.StressTops'. -/
def stressTopsUptoCard : Claim7 := { stood := { row := stressTopsUptoRow, standIns := [], harness := (true, "e40cba3c07a01f5c56d06667f612748eca45aa69373cf47e72435b568451a9e1"), looks := true }, kinds := [], alts := [], laidByText := true, laidKinds := [.sentinel, .sentinel, .sentinel], laidTests := true, laidLooks := .later }
def StressTopsUptoCardSaid : Prop := Claim7.holds Tryd.pinned (.plain (OpenSpec.upto stressTopsSpec)) stressTopsUptoCard

/-- THE SECOND FORM's CARD OF 'pledgelaw12.CutEnds'. -/
def cutEndsUptoCard : Claim7 := { stood := { row := cutEndsUptoRow, standIns := [], harness := (true, "e40cba3c07a01f5c56d06667f612748eca45aa69373cf47e72435b568451a9e1"), looks := true }, kinds := [], alts := [], laidByText := true, laidKinds := [.sentinel], laidTests := true, laidLooks := .later }
def CutEndsUptoCardSaid : Prop := Claim7.holds Tryd.pinned (.plain (OpenSpec.upto cutEndsSpec)) cutEndsUptoCard

/-- THE SECOND FORM's CARD OF 'pledgelaw12.CutBounds'. -/
def cutBoundsUptoCard : Claim7 := { stood := { row := cutBoundsUptoRow, standIns := [], harness := (true, "e40cba3c07a01f5c56d06667f612748eca45aa69373cf47e72435b568451a9e1"), looks := true }, kinds := [], alts := [], laidByText := true, laidKinds := [.sentinel, .sentinel, .sentinel, .sentinel, .sentinel, .sentinel, .sentinel, .sentinel, .sentinel, .sentinel, .sentinel, .sentinel, .sentinel, .sentinel, .sentinel, .sentinel, .sentinel, .sentinel, .sentinel, .sentinel, .sentinel], laidTests := true, laidLooks := .later }
def CutBoundsUptoCardSaid : Prop := Claim7.holds Tryd.pinned (.plain (OpenSpec.upto cutBoundsSpec)) cutBoundsUptoCard

/-- THE SECOND FORM's CARD OF 'pledgelaw22.StressCovers'. -/
def stressCoversUptoCard : Claim7 := { stood := { row := stressCoversUptoRow, standIns := [], harness := (true, "e40cba3c07a01f5c56d06667f612748eca45aa69373cf47e72435b568451a9e1"), looks := true }, kinds := [], alts := [], laidByText := true, laidKinds := [.sentinel, .sentinel, .sentinel], laidTests := true, laidLooks := .later }
def StressCoversUptoCardSaid : Prop := Claim7.holds Tryd.pinned (.plain (OpenSpec.upto stressCoversSpec)) stressCoversUptoCard

/-- THE SECOND FORM's CARD OF 'pledgelaw10.AssetBounds'. -/
def assetBoundsUptoCard : Claim7 := { stood := { row := assetBoundsUptoRow, standIns := [], harness := (true, "e40cba3c07a01f5c56d06667f612748eca45aa69373cf47e72435b568451a9e1"), looks := true }, kinds := [], alts := [], laidByText := true, laidKinds := [.sentinel, .sentinel, .sentinel, .sentinel, .sentinel, .sentinel, .sentinel, .sentinel, .sentinel, .sentinel, .sentinel, .sentinel, .sentinel, .sentinel, .sentinel, .sentinel, .sentinel, .sentinel, .sentinel, .sentinel, .sentinel], laidTests := true, laidLooks := .later }
def AssetBoundsUptoCardSaid : Prop := Claim7.holds Tryd.pinned (.plain (OpenSpec.upto assetBoundsSpec)) assetBoundsUptoCard

/-- THE SECOND FORM's CARD OF 'pledgelaw10.AssetOrder'. -/
def assetOrderUptoCard : Claim7 := { stood := { row := assetOrderUptoRow, standIns := [], harness := (true, "e40cba3c07a01f5c56d06667f612748eca45aa69373cf47e72435b568451a9e1"), looks := true }, kinds := [], alts := [], laidByText := true, laidKinds := [.sentinel, .sentinel, .sentinel, .sentinel, .sentinel, .sentinel, .sentinel, .sentinel, .sentinel, .sentinel, .sentinel, .sentinel, .sentinel, .sentinel, .sentinel, .sentinel, .sentinel, .sentinel, .sentinel, .sentinel, .sentinel], laidTests := true, laidLooks := .later }
def AssetOrderUptoCardSaid : Prop := Claim7.holds Tryd.pinned (.plain (OpenSpec.upto assetOrderSpec)) assetOrderUptoCard

/-- THE SECOND FORM's CARD OF 'pledgelaw10.AssetPlays'. -/
def assetPlaysUptoCard : Claim7 := { stood := { row := assetPlaysUptoRow, standIns := [], harness := (true, "e40cba3c07a01f5c56d06667f612748eca45aa69373cf47e72435b568451a9e1"), looks := true }, kinds := [], alts := [], laidByText := true, laidKinds := [.sentinel, .sentinel, .sentinel, .sentinel, .sentinel, .sentinel, .sentinel, .sentinel, .sentinel, .sentinel, .sentinel, .sentinel, .sentinel, .sentinel, .sentinel, .sentinel, .sentinel, .sentinel, .sentinel, .sentinel, .sentinel], laidTests := true, laidLooks := .later }
def AssetPlaysUptoCardSaid : Prop := Claim7.holds Tryd.pinned (.plain (OpenSpec.upto assetPlaysSpec)) assetPlaysUptoCard

/-- THE SECOND FORM's CARD OF 'pledgelaw12.CutSteps'. -/
def cutStepsUptoCard : Claim7 := { stood := { row := cutStepsUptoRow, standIns := [], harness := (true, "e40cba3c07a01f5c56d06667f612748eca45aa69373cf47e72435b568451a9e1"), looks := true }, kinds := [], alts := [], laidByText := true, laidKinds := [.sentinel], laidTests := true, laidLooks := .later }
def CutStepsUptoCardSaid : Prop := Claim7.holds Tryd.pinned (.plain (OpenSpec.upto cutStepsSpec)) cutStepsUptoCard

/-- THE SECOND FORM's CARD OF 'pledgelaw12.CutPlays'. -/
def cutPlaysUptoCard : Claim7 := { stood := { row := cutPlaysUptoRow, standIns := [], harness := (true, "e40cba3c07a01f5c56d06667f612748eca45aa69373cf47e72435b568451a9e1"), looks := true }, kinds := [], alts := [], laidByText := true, laidKinds := [.sentinel, .sentinel, .sentinel, .sentinel, .sentinel, .sentinel, .sentinel, .sentinel, .sentinel, .sentinel, .sentinel, .sentinel, .sentinel, .sentinel, .sentinel, .sentinel, .sentinel, .sentinel, .sentinel, .sentinel, .sentinel], laidTests := true, laidLooks := .later }
def CutPlaysUptoCardSaid : Prop := Claim7.holds Tryd.pinned (.plain (OpenSpec.upto cutPlaysSpec)) cutPlaysUptoCard

/-- THE SECOND FORM's CARD OF 'pledgelaw22.StressPlays'. -/
def stressPlaysUptoCard : Claim7 := { stood := { row := stressPlaysUptoRow, standIns := [], harness := (true, "e40cba3c07a01f5c56d06667f612748eca45aa69373cf47e72435b568451a9e1"), looks := true }, kinds := [], alts := [], laidByText := true, laidKinds := [.sentinel, .sentinel, .sentinel, .sentinel, .sentinel, .sentinel, .sentinel, .sentinel, .sentinel, .sentinel, .sentinel, .sentinel, .sentinel, .sentinel, .sentinel, .sentinel, .sentinel, .sentinel, .sentinel, .sentinel, .sentinel], laidTests := true, laidLooks := .later }
def StressPlaysUptoCardSaid : Prop := Claim7.holds Tryd.pinned (.plain (OpenSpec.upto stressPlaysSpec)) stressPlaysUptoCard
end Rows
end Go.Proofs.YtcfhlndnohbclaaDoor
