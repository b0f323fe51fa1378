/-
  DERIVED. GIVEN WITH THE SEED: THE CARDS: each row of YtnfjjbpmhcbelaaGreatDoorRows.lean that lists a variable, with what it lists TIED to the program's text (the seventh form; the later family's looks); each row that meets fmt, with fmt's text TOLD by the authors' own Lean function (tested against real Go, not proved from fmt's source: count such statements apart). THE CARD IS WHAT COUNTS. Prove the row's statement (the work); the ties are given (YtnfjjbpmhcbelaaGreatDoorTie.lean); close each card by the builder's one call (the guide's Derived/Test/ToyasCard.lean, 'card_holds'). Laid BY PROGRAM, IN A SANDBOX (cutbox-door.mjs). By AI agents, Wed Nov 11 2026. No macro, syntax, notation, axiom, sorry.
-/
import Derived.Test.YtnfjjbpmhcbelaaGreatDoorRows
import GoSem.ClaimSeven
namespace Go.Proofs.YtnfjjbpmhcbelaaGreatDoor
namespace Rows

/-- THE TIED CARD OF 'amblerlaw28.FmapActs'. -/
def fmapActsCard : Claim7 := { stood := { row := fmapActsRow, standIns := [], harness := (true, "2f5b30a7d042e872dfd61452cd2ef61574639bef769e3e6f818c584643903bf9"), looks := true }, kinds := [], alts := [], laidByText := true, laidKinds := [.data, .sentinel, .sentinel, .sentinel, .sentinel, .sentinel, .sentinel, .sentinel, .sentinel, .sentinel, .sentinel, .sentinel, .sentinel, .sentinel, .sentinel, .sentinel, .sentinel], laidTests := true, laidLooks := .later }
def FmapActsCardSaid : Prop := Claim7.holds Tryz.pinned (.plain (OpenSpec.ofChange fmapActsSpec)) fmapActsCard

/-- THE SECOND FORM's CARD OF 'amblerlaw28.FmapActs'. -/
def fmapActsUptoCard : Claim7 := { stood := { row := fmapActsUptoRow, standIns := [], harness := (true, "2f5b30a7d042e872dfd61452cd2ef61574639bef769e3e6f818c584643903bf9"), looks := true }, kinds := [], alts := [], laidByText := true, laidKinds := [.data, .sentinel, .sentinel, .sentinel, .sentinel, .sentinel, .sentinel, .sentinel, .sentinel, .sentinel, .sentinel, .sentinel, .sentinel, .sentinel, .sentinel, .sentinel, .sentinel], laidTests := true, laidLooks := .later }
def FmapActsUptoCardSaid : Prop := Claim7.holds Tryz.pinned (.plain (OpenSpec.upto fmapActsSpec)) fmapActsUptoCard
end Rows
end Go.Proofs.YtnfjjbpmhcbelaaGreatDoor
