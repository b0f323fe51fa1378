/-
  DERIVED. GIVEN WITH THE SEED: THE CARDS: each row of YtfojgfddgplinabGreatDoorRows.lean that lists a variable, with what it lists TIED to the program's text (the seventh form; the later family's looks); each row that meets fmt, with fmt's text TOLD by the authors' own Lean function (tested against real Go, not proved from fmt's source: count such statements apart). THE CARD IS WHAT COUNTS. Prove the row's statement (the work); the ties are given (YtfojgfddgplinabGreatDoorTie.lean); close each card by the builder's one call (the guide's Derived/Test/ToyasCard.lean, 'card_holds'). Laid BY PROGRAM, IN A SANDBOX (cutbox-door.mjs). By AI agents, Wed Nov 11 2026. No macro, syntax, notation, axiom, sorry.
-/
import Derived.Test.YtfojgfddgplinabGreatDoorRows
import GoSem.ClaimSeven
namespace Go.Proofs.YtfojgfddgplinabGreatDoor
namespace Rows

/-- THE TIED CARD OF 'amblerlaw25.RtmapOrder'. -/
def rtmapOrderCard : Claim7 := { stood := { row := rtmapOrderRow, standIns := [], harness := (true, "d26a3247ac07bde3ce22cdc3f87d634be073fc4bcb28c552d4f6d0474896aeae"), looks := true }, kinds := [], alts := [], laidByText := true, laidKinds := [.data, .sentinel, .sentinel, .sentinel, .sentinel, .sentinel, .sentinel, .sentinel, .sentinel, .sentinel, .sentinel, .sentinel, .sentinel], laidTests := true, laidLooks := .later }
def RtmapOrderCardSaid : Prop := Claim7.holds Tryz.pinned (.plain (OpenSpec.ofChange rtmapOrderSpec)) rtmapOrderCard

/-- THE SECOND FORM's CARD OF 'amblerlaw25.RtmapOrder'. -/
def rtmapOrderUptoCard : Claim7 := { stood := { row := rtmapOrderUptoRow, standIns := [], harness := (true, "d26a3247ac07bde3ce22cdc3f87d634be073fc4bcb28c552d4f6d0474896aeae"), looks := true }, kinds := [], alts := [], laidByText := true, laidKinds := [.data, .sentinel, .sentinel, .sentinel, .sentinel, .sentinel, .sentinel, .sentinel, .sentinel, .sentinel, .sentinel, .sentinel, .sentinel], laidTests := true, laidLooks := .later }
def RtmapOrderUptoCardSaid : Prop := Claim7.holds Tryz.pinned (.plain (OpenSpec.upto rtmapOrderSpec)) rtmapOrderUptoCard
end Rows
end Go.Proofs.YtfojgfddgplinabGreatDoor
