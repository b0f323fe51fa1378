/-
  DERIVED. GIVEN WITH THE SEED: THE CARDS: each row of YtgpkekdbohdbfaaDoorRows.lean that lists a variable, with what it lists TIED to the program's text (the seventh form; the later family's looks); each row that meets fmt, with fmt's text TOLD by the authors' own Lean function (tested against real Go, not proved from fmt's source: count such statements apart). THE CARD IS WHAT COUNTS. Prove the row's statement (the work); the ties are given (YtgpkekdbohdbfaaDoorTie.lean); close each card by the builder's one call (the guide's Derived/Test/ToyasCard.lean, 'card_holds'). Laid BY PROGRAM, IN A SANDBOX (cutbox-door.mjs). By AI agents, Wed Nov 11 2026. No macro, syntax, notation, axiom, sorry.
-/
import Derived.Test.YtgpkekdbohdbfaaDoorRows
import GoSem.ClaimSeven
namespace Go.Proofs.YtgpkekdbohdbfaaDoor
namespace Rows

/-- THE TIED CARD OF 'amblerlaw32.ScribeTexts'. -/
def scribeTextsCard : Claim7 := { stood := { row := scribeTextsRow, standIns := [], harness := (true, "60a15f3522a845304371db795b4be9529fccfd5c6ab8d9df1894b5188d2b2545"), looks := true }, kinds := [], alts := [], laidByText := true, laidKinds := [.data, .data, .data, .sentinel, .sentinel, .sentinel, .sentinel, .sentinel, .sentinel, .sentinel, .sentinel, .sentinel, .sentinel, .sentinel, .sentinel, .sentinel, .sentinel, .sentinel, .sentinel, .widerDeep], laidTests := true, laidLooks := .later }
def ScribeTextsCardSaid : Prop := Claim7.holds Tryd.pinned (.plain (OpenSpec.ofChange scribeTextsSpec)) scribeTextsCard

/-- THE TIED CARD OF 'amblerlaw35.GaugeFloats'. -/
def gaugeFloatsCard : Claim7 := { stood := { row := gaugeFloatsRow, standIns := [], harness := (true, "60a15f3522a845304371db795b4be9529fccfd5c6ab8d9df1894b5188d2b2545"), looks := true }, kinds := [], alts := [], laidByText := true, laidKinds := [.data, .data, .data], laidTests := true, laidLooks := .later }
def GaugeFloatsCardSaid : Prop := Claim7.holds Tryd.pinned (.plain (OpenSpec.ofChange gaugeFloatsSpec)) gaugeFloatsCard

/-- THE TIED CARD OF 'amblerlaw35.GaugeLists'. -/
def gaugeListsCard : Claim7 := { stood := { row := gaugeListsRow, standIns := [], harness := (true, "60a15f3522a845304371db795b4be9529fccfd5c6ab8d9df1894b5188d2b2545"), looks := true }, kinds := [], alts := [], laidByText := true, laidKinds := [.data, .data, .data], laidTests := true, laidLooks := .later }
def GaugeListsCardSaid : Prop := Claim7.holds Tryd.pinned (.plain (OpenSpec.ofChange gaugeListsSpec)) gaugeListsCard

/-- THE TIED CARD OF 'amblerlaw32.ScribeBack'. -/
def scribeBackCard : Claim7 := { stood := { row := scribeBackRow, standIns := [], harness := (true, "60a15f3522a845304371db795b4be9529fccfd5c6ab8d9df1894b5188d2b2545"), looks := true }, kinds := [], alts := [], laidByText := true, laidKinds := [.data, .data, .data, .data, .sentinel, .sentinel, .sentinel, .sentinel, .sentinel, .sentinel, .sentinel, .sentinel, .listed, .data, .widerDeep, .pinned], laidTests := true, laidLooks := .later }
def ScribeBackCardSaid : Prop := Claim7.holds Tryd.pinned (.plain (OpenSpec.ofChange scribeBackSpec)) scribeBackCard

/-- THE SECOND FORM's CARD OF 'amblerlaw32.ScribeTexts'. -/
def scribeTextsUptoCard : Claim7 := { stood := { row := scribeTextsUptoRow, standIns := [], harness := (true, "60a15f3522a845304371db795b4be9529fccfd5c6ab8d9df1894b5188d2b2545"), looks := true }, kinds := [], alts := [], laidByText := true, laidKinds := [.data, .data, .data, .sentinel, .sentinel, .sentinel, .sentinel, .sentinel, .sentinel, .sentinel, .sentinel, .sentinel, .sentinel, .sentinel, .sentinel, .sentinel, .sentinel, .sentinel, .sentinel, .widerDeep], laidTests := true, laidLooks := .later }
def ScribeTextsUptoCardSaid : Prop := Claim7.holds Tryd.pinned (.plain (OpenSpec.upto scribeTextsSpec)) scribeTextsUptoCard

/-- THE SECOND FORM's CARD OF 'amblerlaw35.GaugeFloats'. -/
def gaugeFloatsUptoCard : Claim7 := { stood := { row := gaugeFloatsUptoRow, standIns := [], harness := (true, "60a15f3522a845304371db795b4be9529fccfd5c6ab8d9df1894b5188d2b2545"), looks := true }, kinds := [], alts := [], laidByText := true, laidKinds := [.data, .data, .data], laidTests := true, laidLooks := .later }
def GaugeFloatsUptoCardSaid : Prop := Claim7.holds Tryd.pinned (.plain (OpenSpec.upto gaugeFloatsSpec)) gaugeFloatsUptoCard

/-- THE SECOND FORM's CARD OF 'amblerlaw35.GaugeLists'. -/
def gaugeListsUptoCard : Claim7 := { stood := { row := gaugeListsUptoRow, standIns := [], harness := (true, "60a15f3522a845304371db795b4be9529fccfd5c6ab8d9df1894b5188d2b2545"), looks := true }, kinds := [], alts := [], laidByText := true, laidKinds := [.data, .data, .data], laidTests := true, laidLooks := .later }
def GaugeListsUptoCardSaid : Prop := Claim7.holds Tryd.pinned (.plain (OpenSpec.upto gaugeListsSpec)) gaugeListsUptoCard

/-- THE SECOND FORM's CARD OF 'amblerlaw32.ScribeBack'. -/
def scribeBackUptoCard : Claim7 := { stood := { row := scribeBackUptoRow, standIns := [], harness := (true, "60a15f3522a845304371db795b4be9529fccfd5c6ab8d9df1894b5188d2b2545"), looks := true }, kinds := [], alts := [], laidByText := true, laidKinds := [.data, .data, .data, .data, .sentinel, .sentinel, .sentinel, .sentinel, .sentinel, .sentinel, .sentinel, .sentinel, .listed, .data, .widerDeep, .pinned], laidTests := true, laidLooks := .later }
def ScribeBackUptoCardSaid : Prop := Claim7.holds Tryd.pinned (.plain (OpenSpec.upto scribeBackSpec)) scribeBackUptoCard
end Rows
end Go.Proofs.YtgpkekdbohdbfaaDoor
