/-
  DERIVED. GIVEN WITH THE SEED: THE CARDS: each row of YtclhajcphnpgjaaDoorRows.lean that lists a variable, with what it lists TIED to the program's text (the seventh form; the later family's looks); each row that meets fmt, with fmt's text TOLD by the authors' own Lean function (tested against real Go, not proved from fmt's source: count such statements apart). THE CARD IS WHAT COUNTS. Prove the row's statement (the work); the ties are given (YtclhajcphnpgjaaDoorTie.lean); close each card by the builder's one call (the guide's Derived/Test/ToyasCard.lean, 'card_holds'). Laid BY PROGRAM, IN A SANDBOX (cutbox-door.mjs). By AI agents, Wed Nov 11 2026. No macro, syntax, notation, axiom, sorry.
-/
import Derived.Test.YtclhajcphnpgjaaDoorRows
import GoSem.ClaimSeven
namespace Go.Proofs.YtclhajcphnpgjaaDoor
namespace Rows

/-- THE TIED CARD OF 'pledgelaw22.StressCovers'. -/
def stressCoversCard : Claim7 := { stood := { row := stressCoversRow, standIns := [], harness := (true, "7f9347d71b8d5511025f73e820d7e95e0093a000e19672e5907e879f06db531e"), looks := true }, kinds := [], alts := [], laidByText := true, laidKinds := [.sentinel, .sentinel, .sentinel], laidTests := true, laidLooks := .later }
def StressCoversCardSaid : Prop := Claim7.holds Tryd.pinned (.plain (OpenSpec.ofChange stressCoversSpec)) stressCoversCard

/-- THE TIED CARD OF 'pledgelaw16.CapsOrder'. -/
def capsOrderCard : Claim7 := { stood := { row := capsOrderRow, standIns := [], harness := (true, "7f9347d71b8d5511025f73e820d7e95e0093a000e19672e5907e879f06db531e"), looks := true }, kinds := [], alts := [], laidByText := true, laidKinds := [.sentinel, .sentinel], laidTests := true, laidLooks := .later }
def CapsOrderCardSaid : Prop := Claim7.holds Tryd.pinned (.plain (OpenSpec.ofChange capsOrderSpec)) capsOrderCard

/-- THE TIED CARD OF 'pledgelaw16.CapsOver'. -/
def capsOverCard : Claim7 := { stood := { row := capsOverRow, standIns := [], harness := (true, "7f9347d71b8d5511025f73e820d7e95e0093a000e19672e5907e879f06db531e"), looks := true }, kinds := [], alts := [], laidByText := true, laidKinds := [.sentinel, .sentinel, .sentinel, .sentinel, .sentinel, .sentinel, .sentinel, .sentinel, .sentinel, .sentinel, .sentinel, .sentinel, .sentinel, .sentinel, .sentinel, .sentinel, .sentinel, .sentinel, .sentinel, .sentinel, .sentinel], laidTests := true, laidLooks := .later }
def CapsOverCardSaid : Prop := Claim7.holds Tryd.pinned (.plain (OpenSpec.ofChange capsOverSpec)) capsOverCard

/-- THE TIED CARD OF 'pledgelaw16.CapsNest'. -/
def capsNestCard : Claim7 := { stood := { row := capsNestRow, standIns := [], harness := (true, "7f9347d71b8d5511025f73e820d7e95e0093a000e19672e5907e879f06db531e"), looks := true }, kinds := [], alts := [], laidByText := true, laidKinds := [.sentinel, .sentinel], laidTests := true, laidLooks := .later }
def CapsNestCardSaid : Prop := Claim7.holds Tryd.pinned (.plain (OpenSpec.ofChange capsNestSpec)) capsNestCard

/-- THE TIED CARD OF 'pledgelaw16.CapsMost'. -/
def capsMostCard : Claim7 := { stood := { row := capsMostRow, standIns := [], harness := (true, "7f9347d71b8d5511025f73e820d7e95e0093a000e19672e5907e879f06db531e"), looks := true }, kinds := [], alts := [], laidByText := true, laidKinds := [.sentinel, .sentinel], laidTests := true, laidLooks := .later }
def CapsMostCardSaid : Prop := Claim7.holds Tryd.pinned (.plain (OpenSpec.ofChange capsMostSpec)) capsMostCard

/-- THE TIED CARD OF 'pledgelaw6.RootBytes'. -/
def rootBytesCard : Claim7 := { stood := { row := rootBytesRow, standIns := [], harness := (true, "7f9347d71b8d5511025f73e820d7e95e0093a000e19672e5907e879f06db531e"), looks := true }, kinds := [], alts := [], laidByText := true, laidKinds := [.sentinel, .sentinel, .sentinel, .sentinel, .sentinel, .sentinel, .sentinel, .sentinel, .sentinel, .sentinel, .sentinel, .sentinel, .sentinel, .sentinel, .sentinel, .sentinel, .sentinel, .sentinel, .sentinel, .sentinel, .sentinel], laidTests := true, laidLooks := .later }
def RootBytesCardSaid : Prop := Claim7.holds Tryd.pinned (.plain (OpenSpec.ofChange rootBytesSpec)) rootBytesCard

/-- THE TIED CARD OF 'pledgelaw6.RootTears'. -/
def rootTearsCard : Claim7 := { stood := { row := rootTearsRow, standIns := [], harness := (true, "7f9347d71b8d5511025f73e820d7e95e0093a000e19672e5907e879f06db531e"), looks := true }, kinds := [], alts := [], laidByText := true, laidKinds := [.sentinel, .sentinel, .sentinel, .sentinel, .sentinel], laidTests := true, laidLooks := .later }
def RootTearsCardSaid : Prop := Claim7.holds Tryd.pinned (.plain (OpenSpec.ofChange rootTearsSpec)) rootTearsCard

/-- THE TIED CARD OF 'pledgelaw6.RootGreater'. -/
def rootGreaterCard : Claim7 := { stood := { row := rootGreaterRow, standIns := [], harness := (true, "7f9347d71b8d5511025f73e820d7e95e0093a000e19672e5907e879f06db531e"), looks := true }, kinds := [], alts := [], laidByText := true, laidKinds := [.sentinel, .sentinel, .sentinel, .sentinel, .sentinel, .sentinel, .sentinel, .sentinel, .sentinel, .sentinel, .sentinel, .sentinel, .sentinel, .sentinel, .sentinel, .sentinel, .sentinel, .sentinel, .sentinel, .sentinel, .sentinel], laidTests := true, laidLooks := .later }
def RootGreaterCardSaid : Prop := Claim7.holds Tryd.pinned (.plain (OpenSpec.ofChange rootGreaterSpec)) rootGreaterCard

/-- THE TIED CARD OF 'pledgelaw10.AssetBounds'. -/
def assetBoundsCard : Claim7 := { stood := { row := assetBoundsRow, standIns := [], harness := (true, "7f9347d71b8d5511025f73e820d7e95e0093a000e19672e5907e879f06db531e"), looks := true }, kinds := [], alts := [], laidByText := true, laidKinds := [.sentinel, .sentinel, .sentinel, .sentinel, .sentinel, .sentinel, .sentinel, .sentinel, .sentinel, .sentinel, .sentinel, .sentinel, .sentinel, .sentinel, .sentinel, .sentinel, .sentinel, .sentinel, .sentinel, .sentinel, .sentinel], laidTests := true, laidLooks := .later }
def AssetBoundsCardSaid : Prop := Claim7.holds Tryd.pinned (.plain (OpenSpec.ofChange assetBoundsSpec)) assetBoundsCard

/-- THE TIED CARD OF 'pledgelaw10.AssetOrder'. -/
def assetOrderCard : Claim7 := { stood := { row := assetOrderRow, standIns := [], harness := (true, "7f9347d71b8d5511025f73e820d7e95e0093a000e19672e5907e879f06db531e"), looks := true }, kinds := [], alts := [], laidByText := true, laidKinds := [.sentinel, .sentinel, .sentinel, .sentinel, .sentinel, .sentinel, .sentinel, .sentinel, .sentinel, .sentinel, .sentinel, .sentinel, .sentinel, .sentinel, .sentinel, .sentinel, .sentinel, .sentinel, .sentinel, .sentinel, .sentinel], laidTests := true, laidLooks := .later }
def AssetOrderCardSaid : Prop := Claim7.holds Tryd.pinned (.plain (OpenSpec.ofChange assetOrderSpec)) assetOrderCard

/-- THE TIED CARD OF 'pledgelaw10.AssetPlays'. -/
def assetPlaysCard : Claim7 := { stood := { row := assetPlaysRow, standIns := [], harness := (true, "7f9347d71b8d5511025f73e820d7e95e0093a000e19672e5907e879f06db531e"), looks := true }, kinds := [], alts := [], laidByText := true, laidKinds := [.sentinel, .sentinel, .sentinel, .sentinel, .sentinel, .sentinel, .sentinel, .sentinel, .sentinel, .sentinel, .sentinel, .sentinel, .sentinel, .sentinel, .sentinel, .sentinel, .sentinel, .sentinel, .sentinel, .sentinel, .sentinel], laidTests := true, laidLooks := .later }
def AssetPlaysCardSaid : Prop := Claim7.holds Tryd.pinned (.plain (OpenSpec.ofChange assetPlaysSpec)) assetPlaysCard

/-- THE TIED CARD OF 'pledgelaw14.HoldSums'. -/
def holdSumsCard : Claim7 := { stood := { row := holdSumsRow, standIns := [], harness := (true, "7f9347d71b8d5511025f73e820d7e95e0093a000e19672e5907e879f06db531e"), looks := true }, kinds := [], alts := [], laidByText := true, laidKinds := [.sentinel, .sentinel, .sentinel, .sentinel, .sentinel, .sentinel, .sentinel, .sentinel, .sentinel, .sentinel, .sentinel, .sentinel, .sentinel, .sentinel, .sentinel, .sentinel, .sentinel, .sentinel, .sentinel, .sentinel, .sentinel], laidTests := true, laidLooks := .later }
def HoldSumsCardSaid : Prop := Claim7.holds Tryd.pinned (.plain (OpenSpec.ofChange holdSumsSpec)) holdSumsCard

/-- THE SECOND FORM's CARD OF 'pledgelaw22.StressCovers'. -/
def stressCoversUptoCard : Claim7 := { stood := { row := stressCoversUptoRow, standIns := [], harness := (true, "7f9347d71b8d5511025f73e820d7e95e0093a000e19672e5907e879f06db531e"), looks := true }, kinds := [], alts := [], laidByText := true, laidKinds := [.sentinel, .sentinel, .sentinel], laidTests := true, laidLooks := .later }
def StressCoversUptoCardSaid : Prop := Claim7.holds Tryd.pinned (.plain (OpenSpec.upto stressCoversSpec)) stressCoversUptoCard

/-- THE SECOND FORM's CARD OF 'pledgelaw16.CapsOrder'. -/
def capsOrderUptoCard : Claim7 := { stood := { row := capsOrderUptoRow, standIns := [], harness := (true, "7f9347d71b8d5511025f73e820d7e95e0093a000e19672e5907e879f06db531e"), looks := true }, kinds := [], alts := [], laidByText := true, laidKinds := [.sentinel, .sentinel], laidTests := true, laidLooks := .later }
def CapsOrderUptoCardSaid : Prop := Claim7.holds Tryd.pinned (.plain (OpenSpec.upto capsOrderSpec)) capsOrderUptoCard

/-- THE SECOND FORM's CARD OF 'pledgelaw16.CapsOver'. -/
def capsOverUptoCard : Claim7 := { stood := { row := capsOverUptoRow, standIns := [], harness := (true, "7f9347d71b8d5511025f73e820d7e95e0093a000e19672e5907e879f06db531e"), looks := true }, kinds := [], alts := [], laidByText := true, laidKinds := [.sentinel, .sentinel, .sentinel, .sentinel, .sentinel, .sentinel, .sentinel, .sentinel, .sentinel, .sentinel, .sentinel, .sentinel, .sentinel, .sentinel, .sentinel, .sentinel, .sentinel, .sentinel, .sentinel, .sentinel, .sentinel], laidTests := true, laidLooks := .later }
def CapsOverUptoCardSaid : Prop := Claim7.holds Tryd.pinned (.plain (OpenSpec.upto capsOverSpec)) capsOverUptoCard

/-- THE SECOND FORM's CARD OF 'pledgelaw16.CapsNest'. -/
def capsNestUptoCard : Claim7 := { stood := { row := capsNestUptoRow, standIns := [], harness := (true, "7f9347d71b8d5511025f73e820d7e95e0093a000e19672e5907e879f06db531e"), looks := true }, kinds := [], alts := [], laidByText := true, laidKinds := [.sentinel, .sentinel], laidTests := true, laidLooks := .later }
def CapsNestUptoCardSaid : Prop := Claim7.holds Tryd.pinned (.plain (OpenSpec.upto capsNestSpec)) capsNestUptoCard

/-- THE SECOND FORM's CARD OF 'pledgelaw16.CapsMost'. -/
def capsMostUptoCard : Claim7 := { stood := { row := capsMostUptoRow, standIns := [], harness := (true, "7f9347d71b8d5511025f73e820d7e95e0093a000e19672e5907e879f06db531e"), looks := true }, kinds := [], alts := [], laidByText := true, laidKinds := [.sentinel, .sentinel], laidTests := true, laidLooks := .later }
def CapsMostUptoCardSaid : Prop := Claim7.holds Tryd.pinned (.plain (OpenSpec.upto capsMostSpec)) capsMostUptoCard

/-- THE SECOND FORM's CARD OF 'pledgelaw6.RootBytes'. -/
def rootBytesUptoCard : Claim7 := { stood := { row := rootBytesUptoRow, standIns := [], harness := (true, "7f9347d71b8d5511025f73e820d7e95e0093a000e19672e5907e879f06db531e"), looks := true }, kinds := [], alts := [], laidByText := true, laidKinds := [.sentinel, .sentinel, .sentinel, .sentinel, .sentinel, .sentinel, .sentinel, .sentinel, .sentinel, .sentinel, .sentinel, .sentinel, .sentinel, .sentinel, .sentinel, .sentinel, .sentinel, .sentinel, .sentinel, .sentinel, .sentinel], laidTests := true, laidLooks := .later }
def RootBytesUptoCardSaid : Prop := Claim7.holds Tryd.pinned (.plain (OpenSpec.upto rootBytesSpec)) rootBytesUptoCard

/-- THE SECOND FORM's CARD OF 'pledgelaw6.RootTears'. -/
def rootTearsUptoCard : Claim7 := { stood := { row := rootTearsUptoRow, standIns := [], harness := (true, "7f9347d71b8d5511025f73e820d7e95e0093a000e19672e5907e879f06db531e"), looks := true }, kinds := [], alts := [], laidByText := true, laidKinds := [.sentinel, .sentinel, .sentinel, .sentinel, .sentinel], laidTests := true, laidLooks := .later }
def RootTearsUptoCardSaid : Prop := Claim7.holds Tryd.pinned (.plain (OpenSpec.upto rootTearsSpec)) rootTearsUptoCard

/-- THE SECOND FORM's CARD OF 'pledgelaw6.RootGreater'. -/
def rootGreaterUptoCard : Claim7 := { stood := { row := rootGreaterUptoRow, standIns := [], harness := (true, "7f9347d71b8d5511025f73e820d7e95e0093a000e19672e5907e879f06db531e"), looks := true }, kinds := [], alts := [], laidByText := true, laidKinds := [.sentinel, .sentinel, .sentinel, .sentinel, .sentinel, .sentinel, .sentinel, .sentinel, .sentinel, .sentinel, .sentinel, .sentinel, .sentinel, .sentinel, .sentinel, .sentinel, .sentinel, .sentinel, .sentinel, .sentinel, .sentinel], laidTests := true, laidLooks := .later }
def RootGreaterUptoCardSaid : Prop := Claim7.holds Tryd.pinned (.plain (OpenSpec.upto rootGreaterSpec)) rootGreaterUptoCard

/-- THE SECOND FORM's CARD OF 'pledgelaw10.AssetBounds'. -/
def assetBoundsUptoCard : Claim7 := { stood := { row := assetBoundsUptoRow, standIns := [], harness := (true, "7f9347d71b8d5511025f73e820d7e95e0093a000e19672e5907e879f06db531e"), looks := true }, kinds := [], alts := [], laidByText := true, laidKinds := [.sentinel, .sentinel, .sentinel, .sentinel, .sentinel, .sentinel, .sentinel, .sentinel, .sentinel, .sentinel, .sentinel, .sentinel, .sentinel, .sentinel, .sentinel, .sentinel, .sentinel, .sentinel, .sentinel, .sentinel, .sentinel], laidTests := true, laidLooks := .later }
def AssetBoundsUptoCardSaid : Prop := Claim7.holds Tryd.pinned (.plain (OpenSpec.upto assetBoundsSpec)) assetBoundsUptoCard

/-- THE SECOND FORM's CARD OF 'pledgelaw10.AssetOrder'. -/
def assetOrderUptoCard : Claim7 := { stood := { row := assetOrderUptoRow, standIns := [], harness := (true, "7f9347d71b8d5511025f73e820d7e95e0093a000e19672e5907e879f06db531e"), looks := true }, kinds := [], alts := [], laidByText := true, laidKinds := [.sentinel, .sentinel, .sentinel, .sentinel, .sentinel, .sentinel, .sentinel, .sentinel, .sentinel, .sentinel, .sentinel, .sentinel, .sentinel, .sentinel, .sentinel, .sentinel, .sentinel, .sentinel, .sentinel, .sentinel, .sentinel], laidTests := true, laidLooks := .later }
def AssetOrderUptoCardSaid : Prop := Claim7.holds Tryd.pinned (.plain (OpenSpec.upto assetOrderSpec)) assetOrderUptoCard

/-- THE SECOND FORM's CARD OF 'pledgelaw10.AssetPlays'. -/
def assetPlaysUptoCard : Claim7 := { stood := { row := assetPlaysUptoRow, standIns := [], harness := (true, "7f9347d71b8d5511025f73e820d7e95e0093a000e19672e5907e879f06db531e"), looks := true }, kinds := [], alts := [], laidByText := true, laidKinds := [.sentinel, .sentinel, .sentinel, .sentinel, .sentinel, .sentinel, .sentinel, .sentinel, .sentinel, .sentinel, .sentinel, .sentinel, .sentinel, .sentinel, .sentinel, .sentinel, .sentinel, .sentinel, .sentinel, .sentinel, .sentinel], laidTests := true, laidLooks := .later }
def AssetPlaysUptoCardSaid : Prop := Claim7.holds Tryd.pinned (.plain (OpenSpec.upto assetPlaysSpec)) assetPlaysUptoCard

/-- THE SECOND FORM's CARD OF 'pledgelaw14.HoldSums'. -/
def holdSumsUptoCard : Claim7 := { stood := { row := holdSumsUptoRow, standIns := [], harness := (true, "7f9347d71b8d5511025f73e820d7e95e0093a000e19672e5907e879f06db531e"), looks := true }, kinds := [], alts := [], laidByText := true, laidKinds := [.sentinel, .sentinel, .sentinel, .sentinel, .sentinel, .sentinel, .sentinel, .sentinel, .sentinel, .sentinel, .sentinel, .sentinel, .sentinel, .sentinel, .sentinel, .sentinel, .sentinel, .sentinel, .sentinel, .sentinel, .sentinel], laidTests := true, laidLooks := .later }
def HoldSumsUptoCardSaid : Prop := Claim7.holds Tryd.pinned (.plain (OpenSpec.upto holdSumsSpec)) holdSumsUptoCard
end Rows
end Go.Proofs.YtclhajcphnpgjaaDoor
