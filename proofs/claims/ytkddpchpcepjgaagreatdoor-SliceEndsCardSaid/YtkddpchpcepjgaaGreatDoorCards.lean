/-
  DERIVED. GIVEN WITH THE SEED: THE CARDS: each row of YtkddpchpcepjgaaGreatDoorRows.lean that lists a variable, with what it lists TIED to the program's text (the seventh form; the later family's looks); each row that meets fmt, with fmt's text TOLD by the authors' own Lean function (tested against real Go, not proved from fmt's source: count such statements apart). THE CARD IS WHAT COUNTS. Prove the row's statement (the work); the ties are given (YtkddpchpcepjgaaGreatDoorTie.lean); close each card by the builder's one call (the guide's Derived/Test/ToyasCard.lean, 'card_holds'). Laid BY PROGRAM, IN A SANDBOX (cutbox-door.mjs). By AI agents, Wed Nov 11 2026. No macro, syntax, notation, axiom, sorry.
-/
import Derived.Test.YtkddpchpcepjgaaGreatDoorRows
import GoSem.ClaimSeven
namespace Go.Proofs.YtkddpchpcepjgaaGreatDoor
namespace Rows

/-- THE TIED CARD OF 'amblerlaw38.SliceEnds'. -/
def sliceEndsCard : Claim7 := { stood := { row := sliceEndsRow, standIns := [], harness := (true, "e05f97a73f745c125b43a90c050dfe9527fa2f6d650ca53a3f1367bc9f0f3e48"), looks := true }, kinds := [], alts := [], laidByText := true, laidKinds := [.data, .sentinel, .sentinel, .sentinel, .sentinel, .sentinel, .sentinel, .sentinel, .sentinel, .sentinel, .sentinel, .sentinel, .sentinel, .sentinel, .sentinel, .sentinel, .sentinel], laidTests := true, laidLooks := .later }
def SliceEndsCardSaid : Prop := Claim7.holds Tryz.pinned (.plain (OpenSpec.ofChange sliceEndsSpec)) sliceEndsCard

/-- THE SECOND FORM's CARD OF 'amblerlaw38.SliceEnds'. -/
def sliceEndsUptoCard : Claim7 := { stood := { row := sliceEndsUptoRow, standIns := [], harness := (true, "e05f97a73f745c125b43a90c050dfe9527fa2f6d650ca53a3f1367bc9f0f3e48"), looks := true }, kinds := [], alts := [], laidByText := true, laidKinds := [.data, .sentinel, .sentinel, .sentinel, .sentinel, .sentinel, .sentinel, .sentinel, .sentinel, .sentinel, .sentinel, .sentinel, .sentinel, .sentinel, .sentinel, .sentinel, .sentinel], laidTests := true, laidLooks := .later }
def SliceEndsUptoCardSaid : Prop := Claim7.holds Tryz.pinned (.plain (OpenSpec.upto sliceEndsSpec)) sliceEndsUptoCard
end Rows
end Go.Proofs.YtkddpchpcepjgaaGreatDoor
