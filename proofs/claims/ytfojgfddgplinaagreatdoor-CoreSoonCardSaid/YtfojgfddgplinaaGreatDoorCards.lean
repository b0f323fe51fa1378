/-
  DERIVED. GIVEN WITH THE SEED: THE CARDS: each row of YtfojgfddgplinaaGreatDoorRows.lean that lists a variable, with what it lists TIED to the program's text (the seventh form; the later family's looks); each row that meets fmt, with fmt's text TOLD by the authors' own Lean function (tested against real Go, not proved from fmt's source: count such statements apart). THE CARD IS WHAT COUNTS. Prove the row's statement (the work); the ties are given (YtfojgfddgplinaaGreatDoorTie.lean); close each card by the builder's one call (the guide's Derived/Test/ToyasCard.lean, 'card_holds'). Laid BY PROGRAM, IN A SANDBOX (cutbox-door.mjs). By AI agents, Wed Nov 11 2026. No macro, syntax, notation, axiom, sorry.
-/
import Derived.Test.YtfojgfddgplinaaGreatDoorRows
import GoSem.ClaimSeven
namespace Go.Proofs.YtfojgfddgplinaaGreatDoor
namespace Rows

/-- THE TIED CARD OF 'amblerlaw21.CoreSoon'. -/
def coreSoonCard : Claim7 := { stood := { row := coreSoonRow, standIns := [], harness := (true, "ae4a4f1a0e6335cc24a7f930b4b92f0d6d63618e0202e961c7a513a347b1012e"), looks := true }, kinds := [], alts := [], laidByText := true, laidKinds := [.data, .sentinel, .sentinel, .sentinel, .sentinel, .sentinel, .sentinel, .sentinel, .sentinel, .sentinel], laidTests := true, laidLooks := .later }
def CoreSoonCardSaid : Prop := Claim7.holds Tryz.pinned (.plain (OpenSpec.ofChange coreSoonSpec)) coreSoonCard

/-- THE SECOND FORM's CARD OF 'amblerlaw21.CoreSoon'. -/
def coreSoonUptoCard : Claim7 := { stood := { row := coreSoonUptoRow, standIns := [], harness := (true, "ae4a4f1a0e6335cc24a7f930b4b92f0d6d63618e0202e961c7a513a347b1012e"), looks := true }, kinds := [], alts := [], laidByText := true, laidKinds := [.data, .sentinel, .sentinel, .sentinel, .sentinel, .sentinel, .sentinel, .sentinel, .sentinel, .sentinel], laidTests := true, laidLooks := .later }
def CoreSoonUptoCardSaid : Prop := Claim7.holds Tryz.pinned (.plain (OpenSpec.upto coreSoonSpec)) coreSoonUptoCard
end Rows
end Go.Proofs.YtfojgfddgplinaaGreatDoor
