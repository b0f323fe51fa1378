/-
  DERIVED. GIVEN WITH THE SEED: THE CARDS: each row of YtflbmgpmnocnbaaGreatDoorRows.lean that lists a variable, with what it lists TIED to the program's text (the seventh form; the later family's looks); each row that meets fmt, with fmt's text TOLD by the authors' own Lean function (tested against real Go, not proved from fmt's source: count such statements apart). THE CARD IS WHAT COUNTS. Prove the row's statement (the work); the ties are given (YtflbmgpmnocnbaaGreatDoorTie.lean); close each card by the builder's one call (the guide's Derived/Test/ToyasCard.lean, 'card_holds'). Laid BY PROGRAM, IN A SANDBOX (cutbox-door.mjs). By AI agents, Wed Nov 11 2026. No macro, syntax, notation, axiom, sorry.
-/
import Derived.Test.YtflbmgpmnocnbaaGreatDoorRows
import GoSem.ClaimSeven
namespace Go.Proofs.YtflbmgpmnocnbaaGreatDoor
namespace Rows

/-- THE TIED CARD OF 'amblerlaw28.FmapOrder'. -/
def fmapOrderCard : Claim7 := { stood := { row := fmapOrderRow, standIns := [], harness := (true, "73a44364cdfd3c1e4b1588cb2e1ff0fb6e4a329c091c79688f26ccc9c0ef7c17"), looks := true }, kinds := [], alts := [], laidByText := true, laidKinds := [.data, .sentinel, .sentinel, .sentinel, .sentinel, .sentinel, .sentinel, .sentinel, .sentinel, .sentinel, .sentinel, .sentinel, .sentinel], laidTests := true, laidLooks := .later }
def FmapOrderCardSaid : Prop := Claim7.holds Tryz.pinned (.plain (OpenSpec.ofChange fmapOrderSpec)) fmapOrderCard

/-- THE SECOND FORM's CARD OF 'amblerlaw28.FmapOrder'. -/
def fmapOrderUptoCard : Claim7 := { stood := { row := fmapOrderUptoRow, standIns := [], harness := (true, "73a44364cdfd3c1e4b1588cb2e1ff0fb6e4a329c091c79688f26ccc9c0ef7c17"), looks := true }, kinds := [], alts := [], laidByText := true, laidKinds := [.data, .sentinel, .sentinel, .sentinel, .sentinel, .sentinel, .sentinel, .sentinel, .sentinel, .sentinel, .sentinel, .sentinel, .sentinel], laidTests := true, laidLooks := .later }
def FmapOrderUptoCardSaid : Prop := Claim7.holds Tryz.pinned (.plain (OpenSpec.upto fmapOrderSpec)) fmapOrderUptoCard
end Rows
end Go.Proofs.YtflbmgpmnocnbaaGreatDoor
