/-
  DERIVED. GIVEN WITH THE SEED: THE CARDS: each row of YtbphcldoflekpaaGreatDoorRows.lean that lists a variable, with what it lists TIED to the program's text (the seventh form; the later family's looks); each row that meets fmt, with fmt's text TOLD by the authors' own Lean function (tested against real Go, not proved from fmt's source: count such statements apart). THE CARD IS WHAT COUNTS. Prove the row's statement (the work); the ties are given (YtbphcldoflekpaaGreatDoorTie.lean); close each card by the builder's one call (the guide's Derived/Test/ToyasCard.lean, 'card_holds'). Laid BY PROGRAM, IN A SANDBOX (cutbox-door.mjs). By AI agents, Wed Nov 11 2026. No macro, syntax, notation, axiom, sorry.
-/
import Derived.Test.YtbphcldoflekpaaGreatDoorRows
import GoSem.ClaimSeven
namespace Go.Proofs.YtbphcldoflekpaaGreatDoor
namespace Rows

/-- THE TIED CARD OF 'amblerlaw25.RtmapIters'. -/
def rtmapItersCard : Claim7 := { stood := { row := rtmapItersRow, standIns := [], harness := (true, "f02608ceab4aaeb6e1b55799dbad949cc19acfc6869f65d5a217872f9319542c"), looks := true }, kinds := [], alts := [], laidByText := true, laidKinds := [.data, .sentinel, .sentinel, .sentinel, .sentinel, .sentinel, .sentinel, .sentinel, .sentinel, .sentinel, .sentinel, .sentinel, .sentinel, .sentinel, .sentinel, .sentinel, .sentinel], laidTests := true, laidLooks := .later }
def RtmapItersCardSaid : Prop := Claim7.holds Tryz.pinned (.plain (OpenSpec.ofChange rtmapItersSpec)) rtmapItersCard

/-- THE SECOND FORM's CARD OF 'amblerlaw25.RtmapIters'. -/
def rtmapItersUptoCard : Claim7 := { stood := { row := rtmapItersUptoRow, standIns := [], harness := (true, "f02608ceab4aaeb6e1b55799dbad949cc19acfc6869f65d5a217872f9319542c"), looks := true }, kinds := [], alts := [], laidByText := true, laidKinds := [.data, .sentinel, .sentinel, .sentinel, .sentinel, .sentinel, .sentinel, .sentinel, .sentinel, .sentinel, .sentinel, .sentinel, .sentinel, .sentinel, .sentinel, .sentinel, .sentinel], laidTests := true, laidLooks := .later }
def RtmapItersUptoCardSaid : Prop := Claim7.holds Tryz.pinned (.plain (OpenSpec.upto rtmapItersSpec)) rtmapItersUptoCard
end Rows
end Go.Proofs.YtbphcldoflekpaaGreatDoor
