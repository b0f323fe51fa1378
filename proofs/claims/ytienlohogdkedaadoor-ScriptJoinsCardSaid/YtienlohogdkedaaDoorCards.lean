/-
  DERIVED. GIVEN WITH THE SEED: THE CARDS: each row of YtienlohogdkedaaDoorRows.lean that lists a variable, with what it lists TIED to the program's text (the seventh form; the later family's looks); each row that meets fmt, with fmt's text TOLD by the authors' own Lean function (tested against real Go, not proved from fmt's source: count such statements apart). THE CARD IS WHAT COUNTS. Prove the row's statement (the work); the ties are given (YtienlohogdkedaaDoorTie.lean); close each card by the builder's one call (the guide's Derived/Test/ToyasCard.lean, 'card_holds'). Laid BY PROGRAM, IN A SANDBOX (cutbox-door.mjs). By AI agents, Wed Nov 11 2026. No macro, syntax, notation, axiom, sorry.
-/
import Derived.Test.YtienlohogdkedaaDoorRows
import GoSem.ClaimSeven
namespace Go.Proofs.YtienlohogdkedaaDoor
namespace Rows

/-- THE TIED CARD OF 'amblerlaw32.ScribeTexts'. -/
def scribeTextsCard : Claim7 := { stood := { row := scribeTextsRow, standIns := [], harness := (true, "b4d9928c53adb5754beb6068e867431eb1bfdb1b71c8312386aee94df5c49534"), looks := true }, kinds := [], alts := [], laidByText := true, laidKinds := [.data, .data, .data, .sentinel, .sentinel, .sentinel, .sentinel, .sentinel, .sentinel, .sentinel, .sentinel, .sentinel, .sentinel, .sentinel, .sentinel, .sentinel, .sentinel, .sentinel, .sentinel, .widerDeep], laidTests := true, laidLooks := .later }
def ScribeTextsCardSaid : Prop := Claim7.holds Tryd.pinned (.plain (OpenSpec.ofChange scribeTextsSpec)) scribeTextsCard

/-- THE TIED CARD OF 'amblerlaw35.GaugeFloats'. -/
def gaugeFloatsCard : Claim7 := { stood := { row := gaugeFloatsRow, standIns := [], harness := (true, "b4d9928c53adb5754beb6068e867431eb1bfdb1b71c8312386aee94df5c49534"), looks := true }, kinds := [], alts := [], laidByText := true, laidKinds := [.data, .data, .data], laidTests := true, laidLooks := .later }
def GaugeFloatsCardSaid : Prop := Claim7.holds Tryd.pinned (.plain (OpenSpec.ofChange gaugeFloatsSpec)) gaugeFloatsCard

/-- THE TIED CARD OF 'amblerlaw35.GaugeLists'. -/
def gaugeListsCard : Claim7 := { stood := { row := gaugeListsRow, standIns := [], harness := (true, "b4d9928c53adb5754beb6068e867431eb1bfdb1b71c8312386aee94df5c49534"), looks := true }, kinds := [], alts := [], laidByText := true, laidKinds := [.data, .data, .data], laidTests := true, laidLooks := .later }
def GaugeListsCardSaid : Prop := Claim7.holds Tryd.pinned (.plain (OpenSpec.ofChange gaugeListsSpec)) gaugeListsCard

/-- THE TIED CARD OF 'amblerlaw30.WordsSplits'. -/
def wordsSplitsCard : Claim7 := { stood := { row := wordsSplitsRow, standIns := [], harness := (true, "b4d9928c53adb5754beb6068e867431eb1bfdb1b71c8312386aee94df5c49534"), looks := true }, kinds := [], alts := [], laidByText := true, laidKinds := [.data, .data, .data, .data, .sentinel, .sentinel, .sentinel, .sentinel, .sentinel, .sentinel, .sentinel, .sentinel, .sentinel, .sentinel, .sentinel, .sentinel, .sentinel, .sentinel, .sentinel, .sentinel, .listed, .data, .pinned], laidTests := true, laidLooks := .later }
def WordsSplitsCardSaid : Prop := Claim7.holds Tryd.pinned (.plain (OpenSpec.ofChange wordsSplitsSpec)) wordsSplitsCard

/-- THE TIED CARD OF 'amblerlaw30.WordsRemarks'. -/
def wordsRemarksCard : Claim7 := { stood := { row := wordsRemarksRow, standIns := [], harness := (true, "b4d9928c53adb5754beb6068e867431eb1bfdb1b71c8312386aee94df5c49534"), looks := true }, kinds := [], alts := [], laidByText := true, laidKinds := [.data, .data, .data, .data, .sentinel, .sentinel, .sentinel, .sentinel, .sentinel, .sentinel, .sentinel, .sentinel, .sentinel, .sentinel, .sentinel, .sentinel, .sentinel, .sentinel, .sentinel, .sentinel, .listed, .data, .pinned], laidTests := true, laidLooks := .later }
def WordsRemarksCardSaid : Prop := Claim7.holds Tryd.pinned (.plain (OpenSpec.ofChange wordsRemarksSpec)) wordsRemarksCard

/-- THE TIED CARD OF 'amblerlaw30.WordsNumbers'. -/
def wordsNumbersCard : Claim7 := { stood := { row := wordsNumbersRow, standIns := [], harness := (true, "b4d9928c53adb5754beb6068e867431eb1bfdb1b71c8312386aee94df5c49534"), looks := true }, kinds := [], alts := [], laidByText := true, laidKinds := [.data, .data, .data, .data, .sentinel, .sentinel, .sentinel, .sentinel, .sentinel, .sentinel, .sentinel, .sentinel, .sentinel, .sentinel, .sentinel, .sentinel, .sentinel, .sentinel, .sentinel, .sentinel, .sentinel, .sentinel, .listed, .data, .pinned], laidTests := true, laidLooks := .later }
def WordsNumbersCardSaid : Prop := Claim7.holds Tryd.pinned (.plain (OpenSpec.ofChange wordsNumbersSpec)) wordsNumbersCard

/-- THE TIED CARD OF 'amblerlaw30.WordsBack'. -/
def wordsBackCard : Claim7 := { stood := { row := wordsBackRow, standIns := [], harness := (true, "b4d9928c53adb5754beb6068e867431eb1bfdb1b71c8312386aee94df5c49534"), looks := true }, kinds := [], alts := [], laidByText := true, laidKinds := [.data, .data, .data, .data, .sentinel, .sentinel, .sentinel, .sentinel, .sentinel, .listed, .data, .pinned], laidTests := true, laidLooks := .later }
def WordsBackCardSaid : Prop := Claim7.holds Tryd.pinned (.plain (OpenSpec.ofChange wordsBackSpec)) wordsBackCard

/-- THE TIED CARD OF 'amblerlaw31.ScriptOps'. -/
def scriptOpsCard : Claim7 := { stood := { row := scriptOpsRow, standIns := [], harness := (true, "b4d9928c53adb5754beb6068e867431eb1bfdb1b71c8312386aee94df5c49534"), looks := true }, kinds := [], alts := [], laidByText := true, laidKinds := [.data, .data, .data, .data, .sentinel, .sentinel, .sentinel, .sentinel, .sentinel, .sentinel, .sentinel, .sentinel, .listed, .data, .widerDeep, .pinned], laidTests := true, laidLooks := .later }
def ScriptOpsCardSaid : Prop := Claim7.holds Tryd.pinned (.plain (OpenSpec.ofChange scriptOpsSpec)) scriptOpsCard

/-- THE TIED CARD OF 'amblerlaw31.ScriptOne'. -/
def scriptOneCard : Claim7 := { stood := { row := scriptOneRow, standIns := [], harness := (true, "b4d9928c53adb5754beb6068e867431eb1bfdb1b71c8312386aee94df5c49534"), looks := true }, kinds := [], alts := [], laidByText := true, laidKinds := [.data, .data, .data, .data, .sentinel, .sentinel, .sentinel, .sentinel, .sentinel, .sentinel, .sentinel, .sentinel, .sentinel, .sentinel, .sentinel, .sentinel, .sentinel, .sentinel, .sentinel, .sentinel, .sentinel, .sentinel, .listed, .data, .widerDeep, .pinned], laidTests := true, laidLooks := .later }
def ScriptOneCardSaid : Prop := Claim7.holds Tryd.pinned (.plain (OpenSpec.ofChange scriptOneSpec)) scriptOneCard

/-- THE TIED CARD OF 'amblerlaw31.ScriptJoins'. -/
def scriptJoinsCard : Claim7 := { stood := { row := scriptJoinsRow, standIns := [], harness := (true, "b4d9928c53adb5754beb6068e867431eb1bfdb1b71c8312386aee94df5c49534"), looks := true }, kinds := [], alts := [], laidByText := true, laidKinds := [.data, .data, .data, .data, .sentinel, .sentinel, .sentinel, .sentinel, .sentinel, .sentinel, .sentinel, .sentinel, .sentinel, .sentinel, .sentinel, .sentinel, .sentinel, .sentinel, .sentinel, .sentinel, .sentinel, .sentinel, .listed, .data, .widerDeep, .pinned], laidTests := true, laidLooks := .later }
def ScriptJoinsCardSaid : Prop := Claim7.holds Tryd.pinned (.plain (OpenSpec.ofChange scriptJoinsSpec)) scriptJoinsCard

/-- THE SECOND FORM's CARD OF 'amblerlaw32.ScribeTexts'. -/
def scribeTextsUptoCard : Claim7 := { stood := { row := scribeTextsUptoRow, standIns := [], harness := (true, "b4d9928c53adb5754beb6068e867431eb1bfdb1b71c8312386aee94df5c49534"), looks := true }, kinds := [], alts := [], laidByText := true, laidKinds := [.data, .data, .data, .sentinel, .sentinel, .sentinel, .sentinel, .sentinel, .sentinel, .sentinel, .sentinel, .sentinel, .sentinel, .sentinel, .sentinel, .sentinel, .sentinel, .sentinel, .sentinel, .widerDeep], laidTests := true, laidLooks := .later }
def ScribeTextsUptoCardSaid : Prop := Claim7.holds Tryd.pinned (.plain (OpenSpec.upto scribeTextsSpec)) scribeTextsUptoCard

/-- THE SECOND FORM's CARD OF 'amblerlaw35.GaugeFloats'. -/
def gaugeFloatsUptoCard : Claim7 := { stood := { row := gaugeFloatsUptoRow, standIns := [], harness := (true, "b4d9928c53adb5754beb6068e867431eb1bfdb1b71c8312386aee94df5c49534"), looks := true }, kinds := [], alts := [], laidByText := true, laidKinds := [.data, .data, .data], laidTests := true, laidLooks := .later }
def GaugeFloatsUptoCardSaid : Prop := Claim7.holds Tryd.pinned (.plain (OpenSpec.upto gaugeFloatsSpec)) gaugeFloatsUptoCard

/-- THE SECOND FORM's CARD OF 'amblerlaw35.GaugeLists'. -/
def gaugeListsUptoCard : Claim7 := { stood := { row := gaugeListsUptoRow, standIns := [], harness := (true, "b4d9928c53adb5754beb6068e867431eb1bfdb1b71c8312386aee94df5c49534"), looks := true }, kinds := [], alts := [], laidByText := true, laidKinds := [.data, .data, .data], laidTests := true, laidLooks := .later }
def GaugeListsUptoCardSaid : Prop := Claim7.holds Tryd.pinned (.plain (OpenSpec.upto gaugeListsSpec)) gaugeListsUptoCard

/-- THE SECOND FORM's CARD OF 'amblerlaw30.WordsSplits'. -/
def wordsSplitsUptoCard : Claim7 := { stood := { row := wordsSplitsUptoRow, standIns := [], harness := (true, "b4d9928c53adb5754beb6068e867431eb1bfdb1b71c8312386aee94df5c49534"), looks := true }, kinds := [], alts := [], laidByText := true, laidKinds := [.data, .data, .data, .data, .sentinel, .sentinel, .sentinel, .sentinel, .sentinel, .sentinel, .sentinel, .sentinel, .sentinel, .sentinel, .sentinel, .sentinel, .sentinel, .sentinel, .sentinel, .sentinel, .listed, .data, .pinned], laidTests := true, laidLooks := .later }
def WordsSplitsUptoCardSaid : Prop := Claim7.holds Tryd.pinned (.plain (OpenSpec.upto wordsSplitsSpec)) wordsSplitsUptoCard

/-- THE SECOND FORM's CARD OF 'amblerlaw30.WordsRemarks'. -/
def wordsRemarksUptoCard : Claim7 := { stood := { row := wordsRemarksUptoRow, standIns := [], harness := (true, "b4d9928c53adb5754beb6068e867431eb1bfdb1b71c8312386aee94df5c49534"), looks := true }, kinds := [], alts := [], laidByText := true, laidKinds := [.data, .data, .data, .data, .sentinel, .sentinel, .sentinel, .sentinel, .sentinel, .sentinel, .sentinel, .sentinel, .sentinel, .sentinel, .sentinel, .sentinel, .sentinel, .sentinel, .sentinel, .sentinel, .listed, .data, .pinned], laidTests := true, laidLooks := .later }
def WordsRemarksUptoCardSaid : Prop := Claim7.holds Tryd.pinned (.plain (OpenSpec.upto wordsRemarksSpec)) wordsRemarksUptoCard

/-- THE SECOND FORM's CARD OF 'amblerlaw30.WordsNumbers'. -/
def wordsNumbersUptoCard : Claim7 := { stood := { row := wordsNumbersUptoRow, standIns := [], harness := (true, "b4d9928c53adb5754beb6068e867431eb1bfdb1b71c8312386aee94df5c49534"), looks := true }, kinds := [], alts := [], laidByText := true, laidKinds := [.data, .data, .data, .data, .sentinel, .sentinel, .sentinel, .sentinel, .sentinel, .sentinel, .sentinel, .sentinel, .sentinel, .sentinel, .sentinel, .sentinel, .sentinel, .sentinel, .sentinel, .sentinel, .sentinel, .sentinel, .listed, .data, .pinned], laidTests := true, laidLooks := .later }
def WordsNumbersUptoCardSaid : Prop := Claim7.holds Tryd.pinned (.plain (OpenSpec.upto wordsNumbersSpec)) wordsNumbersUptoCard

/-- THE SECOND FORM's CARD OF 'amblerlaw30.WordsBack'. -/
def wordsBackUptoCard : Claim7 := { stood := { row := wordsBackUptoRow, standIns := [], harness := (true, "b4d9928c53adb5754beb6068e867431eb1bfdb1b71c8312386aee94df5c49534"), looks := true }, kinds := [], alts := [], laidByText := true, laidKinds := [.data, .data, .data, .data, .sentinel, .sentinel, .sentinel, .sentinel, .sentinel, .listed, .data, .pinned], laidTests := true, laidLooks := .later }
def WordsBackUptoCardSaid : Prop := Claim7.holds Tryd.pinned (.plain (OpenSpec.upto wordsBackSpec)) wordsBackUptoCard

/-- THE SECOND FORM's CARD OF 'amblerlaw31.ScriptOps'. -/
def scriptOpsUptoCard : Claim7 := { stood := { row := scriptOpsUptoRow, standIns := [], harness := (true, "b4d9928c53adb5754beb6068e867431eb1bfdb1b71c8312386aee94df5c49534"), looks := true }, kinds := [], alts := [], laidByText := true, laidKinds := [.data, .data, .data, .data, .sentinel, .sentinel, .sentinel, .sentinel, .sentinel, .sentinel, .sentinel, .sentinel, .listed, .data, .widerDeep, .pinned], laidTests := true, laidLooks := .later }
def ScriptOpsUptoCardSaid : Prop := Claim7.holds Tryd.pinned (.plain (OpenSpec.upto scriptOpsSpec)) scriptOpsUptoCard

/-- THE SECOND FORM's CARD OF 'amblerlaw31.ScriptOne'. -/
def scriptOneUptoCard : Claim7 := { stood := { row := scriptOneUptoRow, standIns := [], harness := (true, "b4d9928c53adb5754beb6068e867431eb1bfdb1b71c8312386aee94df5c49534"), looks := true }, kinds := [], alts := [], laidByText := true, laidKinds := [.data, .data, .data, .data, .sentinel, .sentinel, .sentinel, .sentinel, .sentinel, .sentinel, .sentinel, .sentinel, .sentinel, .sentinel, .sentinel, .sentinel, .sentinel, .sentinel, .sentinel, .sentinel, .sentinel, .sentinel, .listed, .data, .widerDeep, .pinned], laidTests := true, laidLooks := .later }
def ScriptOneUptoCardSaid : Prop := Claim7.holds Tryd.pinned (.plain (OpenSpec.upto scriptOneSpec)) scriptOneUptoCard

/-- THE SECOND FORM's CARD OF 'amblerlaw31.ScriptJoins'. -/
def scriptJoinsUptoCard : Claim7 := { stood := { row := scriptJoinsUptoRow, standIns := [], harness := (true, "b4d9928c53adb5754beb6068e867431eb1bfdb1b71c8312386aee94df5c49534"), looks := true }, kinds := [], alts := [], laidByText := true, laidKinds := [.data, .data, .data, .data, .sentinel, .sentinel, .sentinel, .sentinel, .sentinel, .sentinel, .sentinel, .sentinel, .sentinel, .sentinel, .sentinel, .sentinel, .sentinel, .sentinel, .sentinel, .sentinel, .sentinel, .sentinel, .listed, .data, .widerDeep, .pinned], laidTests := true, laidLooks := .later }
def ScriptJoinsUptoCardSaid : Prop := Claim7.holds Tryd.pinned (.plain (OpenSpec.upto scriptJoinsSpec)) scriptJoinsUptoCard
end Rows
end Go.Proofs.YtienlohogdkedaaDoor
