/-
  DERIVED. GIVEN WITH THE SEED: THE CARDS: each row of YtfcecmcnmgagnaaGreatDoorRows.lean that lists a variable, with what it lists TIED to the program's text (the seventh form; the later family's looks); each row that meets fmt, with fmt's text TOLD by the authors' own Lean function (tested against real Go, not proved from fmt's source: count such statements apart). THE CARD IS WHAT COUNTS. Prove the row's statement (the work); the ties are given (YtfcecmcnmgagnaaGreatDoorTie.lean); close each card by the builder's one call (the guide's Derived/Test/ToyasCard.lean, 'card_holds'). Laid BY PROGRAM, IN A SANDBOX (cutbox-door.mjs). By AI agents, Wed Nov 11 2026. No macro, syntax, notation, axiom, sorry.
-/
import Derived.Test.YtfcecmcnmgagnaaGreatDoorRows
import GoSem.ClaimSeven
namespace Go.Proofs.YtfcecmcnmgagnaaGreatDoor
namespace Rows

/-- THE TIED CARD OF 'amblerlaw46.CacheLasts'. -/
def cacheLastsCard : Claim7 := { stood := { row := cacheLastsRow, standIns := [], harness := (true, "2a71a37b0c756838d8fa6151f04a59feebd197c9c171d5b3c9fe808053af3f87"), looks := true }, kinds := [], alts := [], laidByText := true, laidKinds := [.data, .sentinel, .sentinel, .sentinel, .sentinel, .sentinel, .sentinel, .sentinel, .sentinel, .sentinel, .sentinel], laidTests := true, laidLooks := .later }
def CacheLastsCardSaid : Prop := Claim7.holds Tryz.pinned (.plain (OpenSpec.ofChange cacheLastsSpec)) cacheLastsCard

/-- THE SECOND FORM's CARD OF 'amblerlaw46.CacheLasts'. -/
def cacheLastsUptoCard : Claim7 := { stood := { row := cacheLastsUptoRow, standIns := [], harness := (true, "2a71a37b0c756838d8fa6151f04a59feebd197c9c171d5b3c9fe808053af3f87"), looks := true }, kinds := [], alts := [], laidByText := true, laidKinds := [.data, .sentinel, .sentinel, .sentinel, .sentinel, .sentinel, .sentinel, .sentinel, .sentinel, .sentinel, .sentinel], laidTests := true, laidLooks := .later }
def CacheLastsUptoCardSaid : Prop := Claim7.holds Tryz.pinned (.plain (OpenSpec.upto cacheLastsSpec)) cacheLastsUptoCard
end Rows
end Go.Proofs.YtfcecmcnmgagnaaGreatDoor
