/-
  DERIVED. GIVEN WITH THE SEED: THE CARDS: each row of YtgfcmdmpegomdaaGreatDoorRows.lean that lists a variable, with what it lists TIED to the program's text (the seventh form; the later family's looks); each row that meets fmt, with fmt's text TOLD by the authors' own Lean function (tested against real Go, not proved from fmt's source: count such statements apart). THE CARD IS WHAT COUNTS. Prove the row's statement (the work); the ties are given (YtgfcmdmpegomdaaGreatDoorTie.lean); close each card by the builder's one call (the guide's Derived/Test/ToyasCard.lean, 'card_holds'). Laid BY PROGRAM, IN A SANDBOX (cutbox-door.mjs). By AI agents, Wed Nov 11 2026. No macro, syntax, notation, axiom, sorry.
-/
import Derived.Test.YtgfcmdmpegomdaaGreatDoorRows
import GoSem.ClaimSeven
namespace Go.Proofs.YtgfcmdmpegomdaaGreatDoor
namespace Rows

/-- THE TIED CARD OF 'amblerlaw28.FmapOne'. -/
def fmapOneCard : Claim7 := { stood := { row := fmapOneRow, standIns := [], harness := (true, "37619a10c297d464c98b170466f93556068722b9fcfa4cd66f46314a72479572"), looks := true }, kinds := [], alts := [], laidByText := true, laidKinds := [.data, .sentinel, .sentinel, .sentinel, .sentinel, .sentinel, .sentinel, .sentinel, .sentinel, .sentinel, .sentinel, .sentinel, .sentinel, .sentinel, .sentinel, .sentinel, .sentinel], laidTests := true, laidLooks := .later }
def FmapOneCardSaid : Prop := Claim7.holds Tryz.pinned (.plain (OpenSpec.ofChange fmapOneSpec)) fmapOneCard

/-- THE SECOND FORM's CARD OF 'amblerlaw28.FmapOne'. -/
def fmapOneUptoCard : Claim7 := { stood := { row := fmapOneUptoRow, standIns := [], harness := (true, "37619a10c297d464c98b170466f93556068722b9fcfa4cd66f46314a72479572"), looks := true }, kinds := [], alts := [], laidByText := true, laidKinds := [.data, .sentinel, .sentinel, .sentinel, .sentinel, .sentinel, .sentinel, .sentinel, .sentinel, .sentinel, .sentinel, .sentinel, .sentinel, .sentinel, .sentinel, .sentinel, .sentinel], laidTests := true, laidLooks := .later }
def FmapOneUptoCardSaid : Prop := Claim7.holds Tryz.pinned (.plain (OpenSpec.upto fmapOneSpec)) fmapOneUptoCard
end Rows
end Go.Proofs.YtgfcmdmpegomdaaGreatDoor
