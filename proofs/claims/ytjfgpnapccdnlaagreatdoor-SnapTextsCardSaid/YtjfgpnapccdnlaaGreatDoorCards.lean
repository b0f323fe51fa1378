/-
  DERIVED. GIVEN WITH THE SEED: THE CARDS: each row of YtjfgpnapccdnlaaGreatDoorRows.lean that lists a variable, with what it lists TIED to the program's text (the seventh form; the later family's looks); each row that meets fmt, with fmt's text TOLD by the authors' own Lean function (tested against real Go, not proved from fmt's source: count such statements apart). THE CARD IS WHAT COUNTS. Prove the row's statement (the work); the ties are given (YtjfgpnapccdnlaaGreatDoorTie.lean); close each card by the builder's one call (the guide's Derived/Test/ToyasCard.lean, 'card_holds'). Laid BY PROGRAM, IN A SANDBOX (cutbox-door.mjs). By AI agents, Wed Nov 11 2026. No macro, syntax, notation, axiom, sorry.
-/
import Derived.Test.YtjfgpnapccdnlaaGreatDoorRows
import GoSem.ClaimSeven
namespace Go.Proofs.YtjfgpnapccdnlaaGreatDoor
namespace Rows

/-- THE TIED CARD OF 'amblerlaw39.SnapTexts'. -/
def snapTextsCard : Claim7 := { stood := { row := snapTextsRow, standIns := [], harness := (true, "e8013320a8a433977c89685fdfdbcb88ce6a4f8210ec3bb5eb2f46db87bf172b"), looks := true }, kinds := [], alts := [], laidByText := true, laidKinds := [.data, .data, .data, .data, .sentinel, .sentinel, .sentinel, .sentinel, .sentinel, .sentinel, .sentinel, .sentinel, .sentinel, .sentinel, .sentinel, .sentinel, .sentinel, .sentinel, .sentinel, .sentinel, .sentinel, .sentinel, .listed, .data, .pinned], laidTests := true, laidLooks := .later }
def SnapTextsCardSaid : Prop := Claim7.holds Tryz.pinned (.plain (OpenSpec.ofChange snapTextsSpec)) snapTextsCard

/-- THE SECOND FORM's CARD OF 'amblerlaw39.SnapTexts'. -/
def snapTextsUptoCard : Claim7 := { stood := { row := snapTextsUptoRow, standIns := [], harness := (true, "e8013320a8a433977c89685fdfdbcb88ce6a4f8210ec3bb5eb2f46db87bf172b"), looks := true }, kinds := [], alts := [], laidByText := true, laidKinds := [.data, .data, .data, .data, .sentinel, .sentinel, .sentinel, .sentinel, .sentinel, .sentinel, .sentinel, .sentinel, .sentinel, .sentinel, .sentinel, .sentinel, .sentinel, .sentinel, .sentinel, .sentinel, .sentinel, .sentinel, .listed, .data, .pinned], laidTests := true, laidLooks := .later }
def SnapTextsUptoCardSaid : Prop := Claim7.holds Tryz.pinned (.plain (OpenSpec.upto snapTextsSpec)) snapTextsUptoCard
end Rows
end Go.Proofs.YtjfgpnapccdnlaaGreatDoor
