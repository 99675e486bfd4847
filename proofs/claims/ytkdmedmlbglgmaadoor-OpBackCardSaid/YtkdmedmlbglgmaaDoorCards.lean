/-
  DERIVED. GIVEN WITH THE SEED: THE CARDS: each row of YtkdmedmlbglgmaaDoorRows.lean that lists a variable, with what it lists TIED to the program's text (the seventh form; the later family's looks); each row that meets fmt, with fmt's text TOLD by the authors' own Lean function (tested against real Go, not proved from fmt's source: count such statements apart). THE CARD IS WHAT COUNTS. Prove the row's statement (the work); the ties are given (YtkdmedmlbglgmaaDoorTie.lean); close each card by the builder's one call (the guide's Derived/Test/ToyasCard.lean, 'card_holds'). Laid BY PROGRAM, IN A SANDBOX (cutbox-door.mjs). By AI agents, Wed Nov 11 2026. No macro, syntax, notation, axiom, sorry.
-/
import Derived.Test.YtkdmedmlbglgmaaDoorRows
import GoSem.ClaimSeven
namespace Go.Proofs.YtkdmedmlbglgmaaDoor
namespace Rows

/-- THE TIED CARD OF 'pledgelaw16.CapsFree'. -/
def capsFreeCard : Claim7 := { stood := { row := capsFreeRow, standIns := [], harness := (true, "116d7e5b11ed86da2ef837b7feb4ae8cf8a7135380f1003f3be9597b671a0cc3"), looks := true }, kinds := [], alts := [], laidByText := true, laidKinds := [.sentinel, .sentinel], laidTests := true, laidLooks := .later }
def CapsFreeCardSaid : Prop := Claim7.holds Tryd.pinned (.plain (OpenSpec.ofChange capsFreeSpec)) capsFreeCard

/-- THE TIED CARD OF 'pledgelaw16.CapsPlay'. -/
def capsPlayCard : Claim7 := { stood := { row := capsPlayRow, standIns := [], harness := (true, "116d7e5b11ed86da2ef837b7feb4ae8cf8a7135380f1003f3be9597b671a0cc3"), looks := true }, kinds := [], alts := [], laidByText := true, laidKinds := [.sentinel, .sentinel, .sentinel, .sentinel, .sentinel, .sentinel, .sentinel, .sentinel, .sentinel, .sentinel, .sentinel, .sentinel, .sentinel, .sentinel, .sentinel, .sentinel, .sentinel, .sentinel, .sentinel, .sentinel, .sentinel], laidTests := true, laidLooks := .later }
def CapsPlayCardSaid : Prop := Claim7.holds Tryd.pinned (.plain (OpenSpec.ofChange capsPlaySpec)) capsPlayCard

/-- THE TIED CARD OF 'pledgelaw25.OpFields'. -/
def opFieldsCard : Claim7 := { stood := { row := opFieldsRow, standIns := [], harness := (true, "116d7e5b11ed86da2ef837b7feb4ae8cf8a7135380f1003f3be9597b671a0cc3"), looks := true }, kinds := [], alts := [], laidByText := true, laidKinds := [.data, .data, .data, .data, .sentinel, .sentinel, .sentinel, .sentinel, .sentinel, .sentinel, .sentinel, .sentinel, .sentinel, .sentinel, .sentinel, .sentinel, .sentinel, .sentinel, .sentinel, .sentinel, .sentinel, .sentinel, .sentinel, .sentinel, .sentinel, .pinned], laidTests := true, laidLooks := .later }
def OpFieldsCardSaid : Prop := Claim7.holds Tryd.pinned (.plain (OpenSpec.ofChange opFieldsSpec)) opFieldsCard

/-- THE TIED CARD OF 'pledgelaw25.OpWords'. -/
def opWordsCard : Claim7 := { stood := { row := opWordsRow, standIns := [], harness := (true, "116d7e5b11ed86da2ef837b7feb4ae8cf8a7135380f1003f3be9597b671a0cc3"), looks := true }, kinds := [], alts := [], laidByText := true, laidKinds := [.data, .data, .data, .data, .sentinel, .sentinel, .sentinel, .sentinel, .sentinel, .sentinel, .sentinel, .sentinel, .sentinel, .sentinel, .sentinel, .sentinel, .sentinel, .sentinel, .sentinel, .sentinel, .sentinel, .sentinel, .sentinel, .sentinel, .sentinel, .sentinel, .sentinel, .pinned], laidTests := true, laidLooks := .later }
def OpWordsCardSaid : Prop := Claim7.holds Tryd.pinned (.plain (OpenSpec.ofChange opWordsSpec)) opWordsCard

/-- THE TIED CARD OF 'pledgelaw25.OpBack'. -/
def opBackCard : Claim7 := { stood := { row := opBackRow, standIns := [], harness := (true, "116d7e5b11ed86da2ef837b7feb4ae8cf8a7135380f1003f3be9597b671a0cc3"), looks := true }, kinds := [], alts := [], laidByText := true, laidKinds := [.data, .data, .data, .data, .sentinel, .sentinel, .sentinel, .sentinel, .sentinel, .sentinel, .sentinel, .sentinel, .sentinel, .sentinel, .sentinel, .sentinel, .sentinel, .sentinel, .sentinel, .sentinel, .sentinel, .sentinel, .sentinel, .sentinel, .sentinel, .sentinel, .sentinel, .pinned], laidTests := true, laidLooks := .later }
def OpBackCardSaid : Prop := Claim7.holds Tryd.pinned (.plain (OpenSpec.ofChange opBackSpec)) opBackCard

/-- THE SECOND FORM's CARD OF 'pledgelaw16.CapsFree'. -/
def capsFreeUptoCard : Claim7 := { stood := { row := capsFreeUptoRow, standIns := [], harness := (true, "116d7e5b11ed86da2ef837b7feb4ae8cf8a7135380f1003f3be9597b671a0cc3"), looks := true }, kinds := [], alts := [], laidByText := true, laidKinds := [.sentinel, .sentinel], laidTests := true, laidLooks := .later }
def CapsFreeUptoCardSaid : Prop := Claim7.holds Tryd.pinned (.plain (OpenSpec.upto capsFreeSpec)) capsFreeUptoCard

/-- THE SECOND FORM's CARD OF 'pledgelaw16.CapsPlay'. -/
def capsPlayUptoCard : Claim7 := { stood := { row := capsPlayUptoRow, standIns := [], harness := (true, "116d7e5b11ed86da2ef837b7feb4ae8cf8a7135380f1003f3be9597b671a0cc3"), looks := true }, kinds := [], alts := [], laidByText := true, laidKinds := [.sentinel, .sentinel, .sentinel, .sentinel, .sentinel, .sentinel, .sentinel, .sentinel, .sentinel, .sentinel, .sentinel, .sentinel, .sentinel, .sentinel, .sentinel, .sentinel, .sentinel, .sentinel, .sentinel, .sentinel, .sentinel], laidTests := true, laidLooks := .later }
def CapsPlayUptoCardSaid : Prop := Claim7.holds Tryd.pinned (.plain (OpenSpec.upto capsPlaySpec)) capsPlayUptoCard

/-- THE SECOND FORM's CARD OF 'pledgelaw25.OpFields'. -/
def opFieldsUptoCard : Claim7 := { stood := { row := opFieldsUptoRow, standIns := [], harness := (true, "116d7e5b11ed86da2ef837b7feb4ae8cf8a7135380f1003f3be9597b671a0cc3"), looks := true }, kinds := [], alts := [], laidByText := true, laidKinds := [.data, .data, .data, .data, .sentinel, .sentinel, .sentinel, .sentinel, .sentinel, .sentinel, .sentinel, .sentinel, .sentinel, .sentinel, .sentinel, .sentinel, .sentinel, .sentinel, .sentinel, .sentinel, .sentinel, .sentinel, .sentinel, .sentinel, .sentinel, .pinned], laidTests := true, laidLooks := .later }
def OpFieldsUptoCardSaid : Prop := Claim7.holds Tryd.pinned (.plain (OpenSpec.upto opFieldsSpec)) opFieldsUptoCard

/-- THE SECOND FORM's CARD OF 'pledgelaw25.OpWords'. -/
def opWordsUptoCard : Claim7 := { stood := { row := opWordsUptoRow, standIns := [], harness := (true, "116d7e5b11ed86da2ef837b7feb4ae8cf8a7135380f1003f3be9597b671a0cc3"), looks := true }, kinds := [], alts := [], laidByText := true, laidKinds := [.data, .data, .data, .data, .sentinel, .sentinel, .sentinel, .sentinel, .sentinel, .sentinel, .sentinel, .sentinel, .sentinel, .sentinel, .sentinel, .sentinel, .sentinel, .sentinel, .sentinel, .sentinel, .sentinel, .sentinel, .sentinel, .sentinel, .sentinel, .sentinel, .sentinel, .pinned], laidTests := true, laidLooks := .later }
def OpWordsUptoCardSaid : Prop := Claim7.holds Tryd.pinned (.plain (OpenSpec.upto opWordsSpec)) opWordsUptoCard

/-- THE SECOND FORM's CARD OF 'pledgelaw25.OpBack'. -/
def opBackUptoCard : Claim7 := { stood := { row := opBackUptoRow, standIns := [], harness := (true, "116d7e5b11ed86da2ef837b7feb4ae8cf8a7135380f1003f3be9597b671a0cc3"), looks := true }, kinds := [], alts := [], laidByText := true, laidKinds := [.data, .data, .data, .data, .sentinel, .sentinel, .sentinel, .sentinel, .sentinel, .sentinel, .sentinel, .sentinel, .sentinel, .sentinel, .sentinel, .sentinel, .sentinel, .sentinel, .sentinel, .sentinel, .sentinel, .sentinel, .sentinel, .sentinel, .sentinel, .sentinel, .sentinel, .pinned], laidTests := true, laidLooks := .later }
def OpBackUptoCardSaid : Prop := Claim7.holds Tryd.pinned (.plain (OpenSpec.upto opBackSpec)) opBackUptoCard
end Rows
end Go.Proofs.YtkdmedmlbglgmaaDoor
