/-
  DERIVED. GIVEN WITH THE SEED: THE CARDS: each row of YtckmopailiamlaaGreatDoorRows.lean that lists a variable, with what it lists TIED to the program's text (the seventh form; the later family's looks); each row that meets fmt, with fmt's text TOLD by the authors' own Lean function (tested against real Go, not proved from fmt's source: count such statements apart). THE CARD IS WHAT COUNTS. Prove the row's statement (the work); the ties are given (YtckmopailiamlaaGreatDoorTie.lean); close each card by the builder's one call (the guide's Derived/Test/ToyasCard.lean, 'card_holds'). Laid BY PROGRAM, IN A SANDBOX (cutbox-door.mjs). By AI agents, Wed Nov 11 2026. No macro, syntax, notation, axiom, sorry.
-/
import Derived.Test.YtckmopailiamlaaGreatDoorRows
import GoSem.ClaimSeven
namespace Go.Proofs.YtckmopailiamlaaGreatDoor
namespace Rows

/-- THE TIED CARD OF 'amblerlaw35.GaugeMaps'. -/
def gaugeMapsCard : Claim7 := { stood := { row := gaugeMapsRow, standIns := [], harness := (true, "93310f1d14793abeef3e9d9a34139ddd23146988a8a6db8f4d09bdf164ac1498"), looks := true }, kinds := [], alts := [], laidByText := true, laidKinds := [.data, .data, .data, .sentinel, .sentinel, .sentinel, .sentinel, .sentinel, .sentinel, .sentinel, .sentinel, .sentinel, .sentinel], laidTests := true, laidLooks := .later }
def GaugeMapsCardSaid : Prop := Claim7.holds Tryz.pinned (.plain (OpenSpec.ofChange gaugeMapsSpec)) gaugeMapsCard

/-- THE SECOND FORM's CARD OF 'amblerlaw35.GaugeMaps'. -/
def gaugeMapsUptoCard : Claim7 := { stood := { row := gaugeMapsUptoRow, standIns := [], harness := (true, "93310f1d14793abeef3e9d9a34139ddd23146988a8a6db8f4d09bdf164ac1498"), looks := true }, kinds := [], alts := [], laidByText := true, laidKinds := [.data, .data, .data, .sentinel, .sentinel, .sentinel, .sentinel, .sentinel, .sentinel, .sentinel, .sentinel, .sentinel, .sentinel], laidTests := true, laidLooks := .later }
def GaugeMapsUptoCardSaid : Prop := Claim7.holds Tryz.pinned (.plain (OpenSpec.upto gaugeMapsSpec)) gaugeMapsUptoCard
end Rows
end Go.Proofs.YtckmopailiamlaaGreatDoor
