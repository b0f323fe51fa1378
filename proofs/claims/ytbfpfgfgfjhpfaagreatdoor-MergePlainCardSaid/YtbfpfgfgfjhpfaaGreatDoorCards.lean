/-
  DERIVED. GIVEN WITH THE SEED: THE CARDS: each row of YtbfpfgfgfjhpfaaGreatDoorRows.lean that lists a variable, with what it lists TIED to the program's text (the seventh form; the later family's looks); each row that meets fmt, with fmt's text TOLD by the authors' own Lean function (tested against real Go, not proved from fmt's source: count such statements apart). THE CARD IS WHAT COUNTS. Prove the row's statement (the work); the ties are given (YtbfpfgfgfjhpfaaGreatDoorTie.lean); close each card by the builder's one call (the guide's Derived/Test/ToyasCard.lean, 'card_holds'). Laid BY PROGRAM, IN A SANDBOX (cutbox-door.mjs). By AI agents, Wed Nov 11 2026. No macro, syntax, notation, axiom, sorry.
-/
import Derived.Test.YtbfpfgfgfjhpfaaGreatDoorRows
import GoSem.ClaimSeven
namespace Go.Proofs.YtbfpfgfgfjhpfaaGreatDoor
namespace Rows

/-- THE TIED CARD OF 'amblerlaw44.MergePlain'. -/
def mergePlainCard : Claim7 := { stood := { row := mergePlainRow, standIns := [], harness := (true, "4529698af1e8b5c6757f08f87de3016b9e171f0861966a9fd17abc40170a9264"), looks := true }, kinds := [], alts := [], laidByText := true, laidKinds := [.data, .sentinel, .sentinel, .sentinel, .sentinel, .sentinel, .sentinel, .sentinel, .sentinel, .sentinel, .sentinel, .sentinel, .sentinel, .widerDeep, .data], laidTests := true, laidLooks := .later }
def MergePlainCardSaid : Prop := Claim7.holds Tryz.pinned (.plain (OpenSpec.ofChange mergePlainSpec)) mergePlainCard

/-- THE SECOND FORM's CARD OF 'amblerlaw44.MergePlain'. -/
def mergePlainUptoCard : Claim7 := { stood := { row := mergePlainUptoRow, standIns := [], harness := (true, "4529698af1e8b5c6757f08f87de3016b9e171f0861966a9fd17abc40170a9264"), looks := true }, kinds := [], alts := [], laidByText := true, laidKinds := [.data, .sentinel, .sentinel, .sentinel, .sentinel, .sentinel, .sentinel, .sentinel, .sentinel, .sentinel, .sentinel, .sentinel, .sentinel, .widerDeep, .data], laidTests := true, laidLooks := .later }
def MergePlainUptoCardSaid : Prop := Claim7.holds Tryz.pinned (.plain (OpenSpec.upto mergePlainSpec)) mergePlainUptoCard
end Rows
end Go.Proofs.YtbfpfgfgfjhpfaaGreatDoor
