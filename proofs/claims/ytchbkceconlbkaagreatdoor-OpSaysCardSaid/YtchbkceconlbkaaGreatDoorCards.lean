/-
  DERIVED. GIVEN WITH THE SEED: THE CARDS: each row of YtchbkceconlbkaaGreatDoorRows.lean that lists a variable, with what it lists TIED to the program's text (the seventh form; the later family's looks); each row that meets fmt, with fmt's text TOLD by the authors' own Lean function (tested against real Go, not proved from fmt's source: count such statements apart). THE CARD IS WHAT COUNTS. Prove the row's statement (the work); the ties are given (YtchbkceconlbkaaGreatDoorTie.lean); close each card by the builder's one call (the guide's Derived/Test/ToyasCard.lean, 'card_holds'). Laid BY PROGRAM, IN A SANDBOX (cutbox-door.mjs). By AI agents, Wed Nov 11 2026. No macro, syntax, notation, axiom, sorry.
-/
import Derived.Test.YtchbkceconlbkaaGreatDoorRows
import GoSem.ClaimSeven
namespace Go.Proofs.YtchbkceconlbkaaGreatDoor
namespace Rows

/-- THE TIED CARD OF 'pledgelaw25.OpSays'. -/
def opSaysCard : Claim7 := { stood := { row := opSaysRow, standIns := [], harness := (true, "987a0633d78f0f42dcae73543a3296616cb0b48535a1024d163ade84b7cbfd31"), looks := true }, kinds := [], alts := [], laidByText := true, laidKinds := [.data, .data, .data, .data, .sentinel, .sentinel, .sentinel, .sentinel, .sentinel, .sentinel, .sentinel, .sentinel, .sentinel, .sentinel, .sentinel, .sentinel, .sentinel, .sentinel, .sentinel, .sentinel, .sentinel, .sentinel, .sentinel, .sentinel, .sentinel, .sentinel, .sentinel, .pinned], laidTests := true, laidLooks := .later }
def OpSaysCardSaid : Prop := Claim7.holds Tryz.pinned (.plain (OpenSpec.ofChange opSaysSpec)) opSaysCard

/-- THE SECOND FORM's CARD OF 'pledgelaw25.OpSays'. -/
def opSaysUptoCard : Claim7 := { stood := { row := opSaysUptoRow, standIns := [], harness := (true, "987a0633d78f0f42dcae73543a3296616cb0b48535a1024d163ade84b7cbfd31"), looks := true }, kinds := [], alts := [], laidByText := true, laidKinds := [.data, .data, .data, .data, .sentinel, .sentinel, .sentinel, .sentinel, .sentinel, .sentinel, .sentinel, .sentinel, .sentinel, .sentinel, .sentinel, .sentinel, .sentinel, .sentinel, .sentinel, .sentinel, .sentinel, .sentinel, .sentinel, .sentinel, .sentinel, .sentinel, .sentinel, .pinned], laidTests := true, laidLooks := .later }
def OpSaysUptoCardSaid : Prop := Claim7.holds Tryz.pinned (.plain (OpenSpec.upto opSaysSpec)) opSaysUptoCard
end Rows
end Go.Proofs.YtchbkceconlbkaaGreatDoor
