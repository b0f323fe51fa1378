/-
  DERIVED. GIVEN WITH THE SEED: THE CARDS: each row of YtgkeameopnpinaaGreatDoorRows.lean that lists a variable, with what it lists TIED to the program's text (the seventh form; the later family's looks); each row that meets fmt, with fmt's text TOLD by the authors' own Lean function (tested against real Go, not proved from fmt's source: count such statements apart). THE CARD IS WHAT COUNTS. Prove the row's statement (the work); the ties are given (YtgkeameopnpinaaGreatDoorTie.lean); close each card by the builder's one call (the guide's Derived/Test/ToyasCard.lean, 'card_holds'). Laid BY PROGRAM, IN A SANDBOX (cutbox-door.mjs). By AI agents, Wed Nov 11 2026. No macro, syntax, notation, axiom, sorry.
-/
import Derived.Test.YtgkeameopnpinaaGreatDoorRows
import GoSem.ClaimSeven
namespace Go.Proofs.YtgkeameopnpinaaGreatDoor
namespace Rows

/-- THE TIED CARD OF 'amblerlaw47.TallyKeeps'. -/
def tallyKeepsCard : Claim7 := { stood := { row := tallyKeepsRow, standIns := [], harness := (true, "d2794792668df789e138cfa2d3512165387d0ba937b27a34583011d4dfad4c50"), looks := true }, kinds := [], alts := [], laidByText := true, laidKinds := [.data, .sentinel, .sentinel, .sentinel, .sentinel, .sentinel, .sentinel, .sentinel, .sentinel, .sentinel, .sentinel, .sentinel, .sentinel, .sentinel, .widerDeep], laidTests := true, laidLooks := .later }
def TallyKeepsCardSaid : Prop := Claim7.holds Tryz.pinned (.plain (OpenSpec.ofChange tallyKeepsSpec)) tallyKeepsCard

/-- THE SECOND FORM's CARD OF 'amblerlaw47.TallyKeeps'. -/
def tallyKeepsUptoCard : Claim7 := { stood := { row := tallyKeepsUptoRow, standIns := [], harness := (true, "d2794792668df789e138cfa2d3512165387d0ba937b27a34583011d4dfad4c50"), looks := true }, kinds := [], alts := [], laidByText := true, laidKinds := [.data, .sentinel, .sentinel, .sentinel, .sentinel, .sentinel, .sentinel, .sentinel, .sentinel, .sentinel, .sentinel, .sentinel, .sentinel, .sentinel, .widerDeep], laidTests := true, laidLooks := .later }
def TallyKeepsUptoCardSaid : Prop := Claim7.holds Tryz.pinned (.plain (OpenSpec.upto tallyKeepsSpec)) tallyKeepsUptoCard
end Rows
end Go.Proofs.YtgkeameopnpinaaGreatDoor
