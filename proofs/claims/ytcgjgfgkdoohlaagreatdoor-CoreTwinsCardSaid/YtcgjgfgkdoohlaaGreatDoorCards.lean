/-
  DERIVED. GIVEN WITH THE SEED: THE CARDS: each row of YtcgjgfgkdoohlaaGreatDoorRows.lean that lists a variable, with what it lists TIED to the program's text (the seventh form; the later family's looks); each row that meets fmt, with fmt's text TOLD by the authors' own Lean function (tested against real Go, not proved from fmt's source: count such statements apart). THE CARD IS WHAT COUNTS. Prove the row's statement (the work); the ties are given (YtcgjgfgkdoohlaaGreatDoorTie.lean); close each card by the builder's one call (the guide's Derived/Test/ToyasCard.lean, 'card_holds'). Laid BY PROGRAM, IN A SANDBOX (cutbox-door.mjs). By AI agents, Wed Nov 11 2026. No macro, syntax, notation, axiom, sorry.
-/
import Derived.Test.YtcgjgfgkdoohlaaGreatDoorRows
import GoSem.ClaimSeven
namespace Go.Proofs.YtcgjgfgkdoohlaaGreatDoor
namespace Rows

/-- THE TIED CARD OF 'amblerlaw21.CoreGroups'. -/
def coreGroupsCard : Claim7 := { stood := { row := coreGroupsRow, standIns := [], harness := (true, "e91722542349568abb7ef9de9b755d4881ad7a41142ea344d95c9567ae411331"), looks := true }, kinds := [], alts := [], laidByText := true, laidKinds := [.data, .sentinel, .sentinel, .sentinel, .sentinel, .sentinel, .sentinel, .sentinel, .sentinel, .sentinel], laidTests := true, laidLooks := .later }
def CoreGroupsCardSaid : Prop := Claim7.holds Tryz.pinned (.plain (OpenSpec.ofChange coreGroupsSpec)) coreGroupsCard

/-- THE TIED CARD OF 'amblerlaw21.CoreSoon'. -/
def coreSoonCard : Claim7 := { stood := { row := coreSoonRow, standIns := [], harness := (true, "e91722542349568abb7ef9de9b755d4881ad7a41142ea344d95c9567ae411331"), looks := true }, kinds := [], alts := [], laidByText := true, laidKinds := [.data, .sentinel, .sentinel, .sentinel, .sentinel, .sentinel, .sentinel, .sentinel, .sentinel, .sentinel], laidTests := true, laidLooks := .later }
def CoreSoonCardSaid : Prop := Claim7.holds Tryz.pinned (.plain (OpenSpec.ofChange coreSoonSpec)) coreSoonCard

/-- THE TIED CARD OF 'amblerlaw21.CoreFunction'. -/
def coreFunctionCard : Claim7 := { stood := { row := coreFunctionRow, standIns := [], harness := (true, "e91722542349568abb7ef9de9b755d4881ad7a41142ea344d95c9567ae411331"), looks := true }, kinds := [], alts := [], laidByText := true, laidKinds := [.data, .sentinel, .sentinel, .sentinel, .sentinel, .sentinel, .sentinel, .sentinel, .sentinel, .sentinel, .sentinel, .sentinel, .sentinel, .sentinel, .sentinel, .sentinel, .sentinel], laidTests := true, laidLooks := .later }
def CoreFunctionCardSaid : Prop := Claim7.holds Tryz.pinned (.plain (OpenSpec.ofChange coreFunctionSpec)) coreFunctionCard

/-- THE TIED CARD OF 'amblerlaw21.CoreTwins'. -/
def coreTwinsCard : Claim7 := { stood := { row := coreTwinsRow, standIns := [], harness := (true, "e91722542349568abb7ef9de9b755d4881ad7a41142ea344d95c9567ae411331"), looks := true }, kinds := [], alts := [], laidByText := true, laidKinds := [.data, .sentinel, .sentinel, .sentinel, .sentinel, .sentinel, .sentinel, .sentinel, .sentinel, .sentinel, .sentinel, .sentinel, .sentinel, .sentinel, .sentinel, .sentinel, .sentinel], laidTests := true, laidLooks := .later }
def CoreTwinsCardSaid : Prop := Claim7.holds Tryz.pinned (.plain (OpenSpec.ofChange coreTwinsSpec)) coreTwinsCard

/-- THE SECOND FORM's CARD OF 'amblerlaw21.CoreGroups'. -/
def coreGroupsUptoCard : Claim7 := { stood := { row := coreGroupsUptoRow, standIns := [], harness := (true, "e91722542349568abb7ef9de9b755d4881ad7a41142ea344d95c9567ae411331"), looks := true }, kinds := [], alts := [], laidByText := true, laidKinds := [.data, .sentinel, .sentinel, .sentinel, .sentinel, .sentinel, .sentinel, .sentinel, .sentinel, .sentinel], laidTests := true, laidLooks := .later }
def CoreGroupsUptoCardSaid : Prop := Claim7.holds Tryz.pinned (.plain (OpenSpec.upto coreGroupsSpec)) coreGroupsUptoCard

/-- THE SECOND FORM's CARD OF 'amblerlaw21.CoreSoon'. -/
def coreSoonUptoCard : Claim7 := { stood := { row := coreSoonUptoRow, standIns := [], harness := (true, "e91722542349568abb7ef9de9b755d4881ad7a41142ea344d95c9567ae411331"), looks := true }, kinds := [], alts := [], laidByText := true, laidKinds := [.data, .sentinel, .sentinel, .sentinel, .sentinel, .sentinel, .sentinel, .sentinel, .sentinel, .sentinel], laidTests := true, laidLooks := .later }
def CoreSoonUptoCardSaid : Prop := Claim7.holds Tryz.pinned (.plain (OpenSpec.upto coreSoonSpec)) coreSoonUptoCard

/-- THE SECOND FORM's CARD OF 'amblerlaw21.CoreFunction'. -/
def coreFunctionUptoCard : Claim7 := { stood := { row := coreFunctionUptoRow, standIns := [], harness := (true, "e91722542349568abb7ef9de9b755d4881ad7a41142ea344d95c9567ae411331"), looks := true }, kinds := [], alts := [], laidByText := true, laidKinds := [.data, .sentinel, .sentinel, .sentinel, .sentinel, .sentinel, .sentinel, .sentinel, .sentinel, .sentinel, .sentinel, .sentinel, .sentinel, .sentinel, .sentinel, .sentinel, .sentinel], laidTests := true, laidLooks := .later }
def CoreFunctionUptoCardSaid : Prop := Claim7.holds Tryz.pinned (.plain (OpenSpec.upto coreFunctionSpec)) coreFunctionUptoCard

/-- THE SECOND FORM's CARD OF 'amblerlaw21.CoreTwins'. -/
def coreTwinsUptoCard : Claim7 := { stood := { row := coreTwinsUptoRow, standIns := [], harness := (true, "e91722542349568abb7ef9de9b755d4881ad7a41142ea344d95c9567ae411331"), looks := true }, kinds := [], alts := [], laidByText := true, laidKinds := [.data, .sentinel, .sentinel, .sentinel, .sentinel, .sentinel, .sentinel, .sentinel, .sentinel, .sentinel, .sentinel, .sentinel, .sentinel, .sentinel, .sentinel, .sentinel, .sentinel], laidTests := true, laidLooks := .later }
def CoreTwinsUptoCardSaid : Prop := Claim7.holds Tryz.pinned (.plain (OpenSpec.upto coreTwinsSpec)) coreTwinsUptoCard
end Rows
end Go.Proofs.YtcgjgfgkdoohlaaGreatDoor
