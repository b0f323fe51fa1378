/-
  DERIVED. GIVEN WITH THE SEED: THE CARDS: each row of YtkkibocdfijnhaaGreatDoorRows.lean that lists a variable, with what it lists TIED to the program's text (the seventh form; the later family's looks); each row that meets fmt, with fmt's text TOLD by the authors' own Lean function (tested against real Go, not proved from fmt's source: count such statements apart). THE CARD IS WHAT COUNTS. Prove the row's statement (the work); the ties are given (YtkkibocdfijnhaaGreatDoorTie.lean); close each card by the builder's one call (the guide's Derived/Test/ToyasCard.lean, 'card_holds'). Laid BY PROGRAM, IN A SANDBOX (cutbox-door.mjs). By AI agents, Wed Nov 11 2026. No macro, syntax, notation, axiom, sorry.
-/
import Derived.Test.YtkkibocdfijnhaaGreatDoorRows
import GoSem.ClaimSeven
namespace Go.Proofs.YtkkibocdfijnhaaGreatDoor
namespace Rows

/-- THE TIED CARD OF 'amblerlaw37.TwinBack'. -/
def twinBackCard : Claim7 := { stood := { row := twinBackRow, standIns := [], harness := (true, "1796c6fe01fcc6e168c6fc0cbc05a2fb42ec773c73c72912f2d5e11dce2aba13"), looks := true }, kinds := [], alts := [], laidByText := true, laidKinds := [.data, .sentinel, .sentinel, .sentinel, .sentinel, .sentinel, .sentinel, .sentinel, .sentinel, .sentinel, .sentinel, .sentinel, .sentinel, .sentinel, .sentinel, .sentinel, .sentinel], laidTests := true, laidLooks := .later }
def TwinBackCardSaid : Prop := Claim7.holds Tryz.pinned (.plain (OpenSpec.ofChange twinBackSpec)) twinBackCard

/-- THE SECOND FORM's CARD OF 'amblerlaw37.TwinBack'. -/
def twinBackUptoCard : Claim7 := { stood := { row := twinBackUptoRow, standIns := [], harness := (true, "1796c6fe01fcc6e168c6fc0cbc05a2fb42ec773c73c72912f2d5e11dce2aba13"), looks := true }, kinds := [], alts := [], laidByText := true, laidKinds := [.data, .sentinel, .sentinel, .sentinel, .sentinel, .sentinel, .sentinel, .sentinel, .sentinel, .sentinel, .sentinel, .sentinel, .sentinel, .sentinel, .sentinel, .sentinel, .sentinel], laidTests := true, laidLooks := .later }
def TwinBackUptoCardSaid : Prop := Claim7.holds Tryz.pinned (.plain (OpenSpec.upto twinBackSpec)) twinBackUptoCard
end Rows
end Go.Proofs.YtkkibocdfijnhaaGreatDoor
