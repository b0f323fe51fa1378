/-
  DERIVED. GIVEN WITH THE SEED: THE CARDS: each row of YthfgacnlojmmfaaGreatDoorRows.lean that lists a variable, with what it lists TIED to the program's text (the seventh form; the later family's looks); each row that meets fmt, with fmt's text TOLD by the authors' own Lean function (tested against real Go, not proved from fmt's source: count such statements apart). THE CARD IS WHAT COUNTS. Prove the row's statement (the work); the ties are given (YthfgacnlojmmfaaGreatDoorTie.lean); close each card by the builder's one call (the guide's Derived/Test/ToyasCard.lean, 'card_holds'). Laid BY PROGRAM, IN A SANDBOX (cutbox-door.mjs). By AI agents, Wed Nov 11 2026. No macro, syntax, notation, axiom, sorry.
-/
import Derived.Test.YthfgacnlojmmfaaGreatDoorRows
import GoSem.ClaimSeven
namespace Go.Proofs.YthfgacnlojmmfaaGreatDoor
namespace Rows

/-- THE TIED CARD OF 'amblerlaw39.SnapLoads'. -/
def snapLoadsCard : Claim7 := { stood := { row := snapLoadsRow, standIns := [], harness := (true, "be9a1644dc071042e00e06e941161ba040442923ed7509a54d5ced22400f17b2"), looks := true }, kinds := [], alts := [], laidByText := true, laidKinds := [.data, .data, .data, .sentinel, .sentinel, .sentinel, .sentinel, .sentinel, .sentinel, .sentinel, .sentinel, .sentinel, .sentinel, .sentinel, .sentinel, .sentinel, .sentinel, .sentinel, .sentinel, .widerDeep], laidTests := true, laidLooks := .later }
def SnapLoadsCardSaid : Prop := Claim7.holds Tryz.pinned (.plain (OpenSpec.ofChange snapLoadsSpec)) snapLoadsCard

/-- THE SECOND FORM's CARD OF 'amblerlaw39.SnapLoads'. -/
def snapLoadsUptoCard : Claim7 := { stood := { row := snapLoadsUptoRow, standIns := [], harness := (true, "be9a1644dc071042e00e06e941161ba040442923ed7509a54d5ced22400f17b2"), looks := true }, kinds := [], alts := [], laidByText := true, laidKinds := [.data, .data, .data, .sentinel, .sentinel, .sentinel, .sentinel, .sentinel, .sentinel, .sentinel, .sentinel, .sentinel, .sentinel, .sentinel, .sentinel, .sentinel, .sentinel, .sentinel, .sentinel, .widerDeep], laidTests := true, laidLooks := .later }
def SnapLoadsUptoCardSaid : Prop := Claim7.holds Tryz.pinned (.plain (OpenSpec.upto snapLoadsSpec)) snapLoadsUptoCard
end Rows
end Go.Proofs.YthfgacnlojmmfaaGreatDoor
