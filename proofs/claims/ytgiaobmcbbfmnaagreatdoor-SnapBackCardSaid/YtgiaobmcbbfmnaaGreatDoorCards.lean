/-
  DERIVED. GIVEN WITH THE SEED: THE CARDS: each row of YtgiaobmcbbfmnaaGreatDoorRows.lean that lists a variable, with what it lists TIED to the program's text (the seventh form; the later family's looks); each row that meets fmt, with fmt's text TOLD by the authors' own Lean function (tested against real Go, not proved from fmt's source: count such statements apart). THE CARD IS WHAT COUNTS. Prove the row's statement (the work); the ties are given (YtgiaobmcbbfmnaaGreatDoorTie.lean); close each card by the builder's one call (the guide's Derived/Test/ToyasCard.lean, 'card_holds'). Laid BY PROGRAM, IN A SANDBOX (cutbox-door.mjs). By AI agents, Wed Nov 11 2026. No macro, syntax, notation, axiom, sorry.
-/
import Derived.Test.YtgiaobmcbbfmnaaGreatDoorRows
import GoSem.ClaimSeven
namespace Go.Proofs.YtgiaobmcbbfmnaaGreatDoor
namespace Rows

/-- THE TIED CARD OF 'amblerlaw39.SnapBack'. -/
def snapBackCard : Claim7 := { stood := { row := snapBackRow, standIns := [], harness := (true, "ddc8a7fc20b8bbbcf4f2e225fcd3c12dad14bb556e7e8ddb4f3b657233d042f0"), looks := true }, kinds := [], alts := [], laidByText := true, laidKinds := [.data, .data, .data, .data, .sentinel, .sentinel, .sentinel, .sentinel, .sentinel, .sentinel, .sentinel, .sentinel, .sentinel, .sentinel, .sentinel, .sentinel, .sentinel, .sentinel, .sentinel, .sentinel, .sentinel, .sentinel, .listed, .data, .pinned], laidTests := true, laidLooks := .later }
def SnapBackCardSaid : Prop := Claim7.holds Tryz.pinned (.plain (OpenSpec.ofChange snapBackSpec)) snapBackCard

/-- THE SECOND FORM's CARD OF 'amblerlaw39.SnapBack'. -/
def snapBackUptoCard : Claim7 := { stood := { row := snapBackUptoRow, standIns := [], harness := (true, "ddc8a7fc20b8bbbcf4f2e225fcd3c12dad14bb556e7e8ddb4f3b657233d042f0"), looks := true }, kinds := [], alts := [], laidByText := true, laidKinds := [.data, .data, .data, .data, .sentinel, .sentinel, .sentinel, .sentinel, .sentinel, .sentinel, .sentinel, .sentinel, .sentinel, .sentinel, .sentinel, .sentinel, .sentinel, .sentinel, .sentinel, .sentinel, .sentinel, .sentinel, .listed, .data, .pinned], laidTests := true, laidLooks := .later }
def SnapBackUptoCardSaid : Prop := Claim7.holds Tryz.pinned (.plain (OpenSpec.upto snapBackSpec)) snapBackUptoCard
end Rows
end Go.Proofs.YtgiaobmcbbfmnaaGreatDoor
