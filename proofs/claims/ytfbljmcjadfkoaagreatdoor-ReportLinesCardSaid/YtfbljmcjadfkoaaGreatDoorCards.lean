/-
  DERIVED. GIVEN WITH THE SEED: THE CARDS: each row of YtfbljmcjadfkoaaGreatDoorRows.lean that lists a variable, with what it lists TIED to the program's text (the seventh form; the later family's looks); each row that meets fmt, with fmt's text TOLD by the authors' own Lean function (tested against real Go, not proved from fmt's source: count such statements apart). THE CARD IS WHAT COUNTS. Prove the row's statement (the work); the ties are given (YtfbljmcjadfkoaaGreatDoorTie.lean); close each card by the builder's one call (the guide's Derived/Test/ToyasCard.lean, 'card_holds'). Laid BY PROGRAM, IN A SANDBOX (cutbox-door.mjs). By AI agents, Wed Nov 11 2026. No macro, syntax, notation, axiom, sorry.
-/
import Derived.Test.YtfbljmcjadfkoaaGreatDoorRows
import GoSem.ClaimSeven
namespace Go.Proofs.YtfbljmcjadfkoaaGreatDoor
namespace Rows

/-- THE TIED CARD OF 'amblerlaw40.ReportLines'. -/
def reportLinesCard : Claim7 := { stood := { row := reportLinesRow, standIns := [], harness := (true, "7e0706b770d8b1c2dcb49ba75335b561ff05ecd6ba4ac49232d7695619f02b2c"), looks := true }, kinds := [], alts := [], laidByText := true, laidKinds := [.data, .data, .data, .sentinel, .sentinel, .sentinel, .sentinel, .sentinel, .sentinel, .sentinel, .sentinel, .sentinel, .sentinel, .sentinel, .sentinel, .sentinel, .sentinel, .widerDeep], laidTests := true, laidLooks := .later }
def ReportLinesCardSaid : Prop := Claim7.holds Tryz.pinned (.plain (OpenSpec.ofChange reportLinesSpec)) reportLinesCard

/-- THE SECOND FORM's CARD OF 'amblerlaw40.ReportLines'. -/
def reportLinesUptoCard : Claim7 := { stood := { row := reportLinesUptoRow, standIns := [], harness := (true, "7e0706b770d8b1c2dcb49ba75335b561ff05ecd6ba4ac49232d7695619f02b2c"), looks := true }, kinds := [], alts := [], laidByText := true, laidKinds := [.data, .data, .data, .sentinel, .sentinel, .sentinel, .sentinel, .sentinel, .sentinel, .sentinel, .sentinel, .sentinel, .sentinel, .sentinel, .sentinel, .sentinel, .sentinel, .widerDeep], laidTests := true, laidLooks := .later }
def ReportLinesUptoCardSaid : Prop := Claim7.holds Tryz.pinned (.plain (OpenSpec.upto reportLinesSpec)) reportLinesUptoCard
end Rows
end Go.Proofs.YtfbljmcjadfkoaaGreatDoor
