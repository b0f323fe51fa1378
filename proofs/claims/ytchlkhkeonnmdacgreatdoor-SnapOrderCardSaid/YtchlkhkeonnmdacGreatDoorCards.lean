/-
  DERIVED. GIVEN WITH THE SEED: THE CARDS: each row of YtchlkhkeonnmdacGreatDoorRows.lean that lists a variable, with what it lists TIED to the program's text (the seventh form; the later family's looks); each row that meets fmt, with fmt's text TOLD by the authors' own Lean function (tested against real Go, not proved from fmt's source: count such statements apart). THE CARD IS WHAT COUNTS. Prove the row's statement (the work); the ties are given (YtchlkhkeonnmdacGreatDoorTie.lean); close each card by the builder's one call (the guide's Derived/Test/ToyasCard.lean, 'card_holds'). Laid BY PROGRAM, IN A SANDBOX (cutbox-door.mjs). By AI agents, Wed Nov 11 2026. No macro, syntax, notation, axiom, sorry.
-/
import Derived.Test.YtchlkhkeonnmdacGreatDoorRows
import GoSem.ClaimSeven
namespace Go.Proofs.YtchlkhkeonnmdacGreatDoor
namespace Rows

/-- THE TIED CARD OF 'amblerlaw39.SnapOrder'. -/
def snapOrderCard : Claim7 := { stood := { row := snapOrderRow, standIns := [], harness := (true, "cb187f5a2ddd7d6c5fbb54aaee08e9e1900444894b20cea6d27cb88b0a3828eb"), looks := true }, kinds := [], alts := [], laidByText := true, laidKinds := [.data, .data, .data, .sentinel, .sentinel, .sentinel, .sentinel, .sentinel, .sentinel, .sentinel, .sentinel, .sentinel, .sentinel, .sentinel, .sentinel, .widerDeep], laidTests := true, laidLooks := .later }
def SnapOrderCardSaid : Prop := Claim7.holds Tryz.pinned (.plain (OpenSpec.ofChange snapOrderSpec)) snapOrderCard

/-- THE SECOND FORM's CARD OF 'amblerlaw39.SnapOrder'. -/
def snapOrderUptoCard : Claim7 := { stood := { row := snapOrderUptoRow, standIns := [], harness := (true, "cb187f5a2ddd7d6c5fbb54aaee08e9e1900444894b20cea6d27cb88b0a3828eb"), looks := true }, kinds := [], alts := [], laidByText := true, laidKinds := [.data, .data, .data, .sentinel, .sentinel, .sentinel, .sentinel, .sentinel, .sentinel, .sentinel, .sentinel, .sentinel, .sentinel, .sentinel, .sentinel, .widerDeep], laidTests := true, laidLooks := .later }
def SnapOrderUptoCardSaid : Prop := Claim7.holds Tryz.pinned (.plain (OpenSpec.upto snapOrderSpec)) snapOrderUptoCard
end Rows
end Go.Proofs.YtchlkhkeonnmdacGreatDoor
