/-
  NARROWER THAN 'FOR EVERY INPUT', by the rows' own cells (each row's printed sentence says how): FmapActs: laid.
  DERIVED. THE GIVEN ROWS OF THIS SEAT. 1 by the template 'for every input the law returns true; each argument reads behind the call as it read before'; 0 by the template 'total and deterministic' (their statements: YtnfjjbpmhcbelaaGreatDoorTotals.lean).
  GIVEN WITH THE SEED: the statements are not yours to turn. If you find one false, say at which input.
  Laid BY PROGRAM, IN A SANDBOX (cutbox-rows.mjs): the forced cells as the released guide's own fill.sh prints them over the translation c91f442ea6162a3e… (all of the seat's roots in one cut). By AI agents, Wed Nov 11 2026. No macro, syntax, notation, axiom, sorry.
-/
import Derived.Test.YtnfjjbpmhcbelaaGreatDoorChecked
import GoSem.Claim
import GoSem.ClaimJoined
import GoSem.ClaimMapViews
import Derived.JoinedTies
import Derived.KernelRfl
namespace Go.Proofs.YtnfjjbpmhcbelaaGreatDoor
/- THE CELL 'sum', in the pinned program and in every row, IS THE sha256 OF THE DUMP (.gsa) THAT YtnfjjbpmhcbelaaGreatDoorProg.lean LOADS. Nothing in Lean hashes anything: it is a label: what it is worth is what the hold of that sum in a sandbox is worth. -/
noncomputable def Tryz.pinned : Pinned := { name := "ytnfjjbpmhcbelaagreatdoor", sum := "c91f442ea6162a3ef83aed6819328fbcf63657627efe3e0258b567e388e0165a", checked := Tryz.checked }
namespace Rows
def none {H : Type} : Left H := { results := [], args := [] }

/- WHAT THE LISTED PACKAGE-LEVEL VARIABLES READ AS WHEN THE CALL BEGINS. Each datum BY PROGRAM (the guide's laid-datum.mjs) off the statement by which the dump's own 'gosem.cut.vars' lays the variable. In a bare row this is a premise. The card (YtnfjjbpmhcbelaaGreatDoorCards.lean) ties it to the program's text. -/
def laid_math_bits_deBruijn64tab {H : Type} : DataW H := .agg [.lit (.int .u8 0), .lit (.int .u8 1), .lit (.int .u8 56), .lit (.int .u8 2), .lit (.int .u8 57), .lit (.int .u8 49), .lit (.int .u8 28), .lit (.int .u8 3), .lit (.int .u8 61), .lit (.int .u8 58), .lit (.int .u8 42), .lit (.int .u8 50), .lit (.int .u8 38), .lit (.int .u8 29), .lit (.int .u8 17), .lit (.int .u8 4), .lit (.int .u8 62), .lit (.int .u8 47), .lit (.int .u8 59), .lit (.int .u8 36), .lit (.int .u8 45), .lit (.int .u8 43), .lit (.int .u8 51), .lit (.int .u8 22), .lit (.int .u8 53), .lit (.int .u8 39), .lit (.int .u8 33), .lit (.int .u8 30), .lit (.int .u8 24), .lit (.int .u8 18), .lit (.int .u8 12), .lit (.int .u8 5), .lit (.int .u8 63), .lit (.int .u8 55), .lit (.int .u8 48), .lit (.int .u8 27), .lit (.int .u8 60), .lit (.int .u8 41), .lit (.int .u8 37), .lit (.int .u8 16), .lit (.int .u8 46), .lit (.int .u8 35), .lit (.int .u8 44), .lit (.int .u8 21), .lit (.int .u8 52), .lit (.int .u8 32), .lit (.int .u8 23), .lit (.int .u8 11), .lit (.int .u8 54), .lit (.int .u8 26), .lit (.int .u8 40), .lit (.int .u8 15), .lit (.int .u8 34), .lit (.int .u8 20), .lit (.int .u8 31), .lit (.int .u8 10), .lit (.int .u8 25), .lit (.int .u8 14), .lit (.int .u8 19), .lit (.int .u8 9), .lit (.int .u8 13), .lit (.int .u8 8), .lit (.int .u8 7), .lit (.int .u8 6)]
def laid_ambler_api_ErrRange {H : Type} : DataW H := .iface "*errors.errorString" (.ptr (.agg [.lit (.string [97, 32, 110, 117, 109, 98, 101, 114, 32, 105, 115, 32, 111, 117, 116, 32, 111, 102, 32, 105, 116, 115, 32, 114, 97, 110, 103, 101])]))
def laid_ambler_api_ErrFull {H : Type} : DataW H := .iface "*errors.errorString" (.ptr (.agg [.lit (.string [116, 104, 101, 114, 101, 32, 105, 115, 32, 110, 111, 32, 109, 111, 114, 101, 32, 114, 111, 111, 109])]))
def laid_ambler_api_ErrForm {H : Type} : DataW H := .iface "*errors.errorString" (.ptr (.agg [.lit (.string [105, 116, 32, 105, 115, 32, 110, 111, 116, 32, 111, 102, 32, 105, 116, 115, 32, 102, 111, 114, 109])]))
def laid_ambler_api_ErrNone {H : Type} : DataW H := .iface "*errors.errorString" (.ptr (.agg [.lit (.string [116, 104, 101, 114, 101, 32, 105, 115, 32, 110, 111, 110, 101])]))
def laid_ambler_api_ErrState {H : Type} : DataW H := .iface "*errors.errorString" (.ptr (.agg [.lit (.string [105, 116, 32, 99, 97, 110, 32, 110, 111, 116, 32, 98, 101, 32, 100, 111, 110, 101, 32, 105, 110, 32, 116, 104, 105, 115, 32, 115, 116, 97, 116, 101])]))
def laid_ambler_api_ErrBadIter {H : Type} : DataW H := .iface "*errors.errorString" (.ptr (.agg [.lit (.string [116, 104, 101, 114, 101, 32, 105, 115, 32, 110, 111, 32, 115, 117, 99, 104, 32, 105, 116, 101, 114, 97, 116, 111, 114])]))
def laid_ambler_api_ErrTooMany {H : Type} : DataW H := .iface "*errors.errorString" (.ptr (.agg [.lit (.string [116, 104, 101, 114, 101, 32, 97, 114, 101, 32, 116, 111, 111, 32, 109, 97, 110, 121, 32, 105, 116, 101, 114, 97, 116, 111, 114, 115])]))
def laid_ambler_api_ErrHash {H : Type} : DataW H := .iface "*errors.errorString" (.ptr (.agg [.lit (.string [111, 110, 101, 32, 107, 101, 121, 32, 104, 97, 115, 32, 116, 119, 111, 32, 104, 97, 115, 104, 101, 115])]))
def laid_ambler_api_ErrLong {H : Type} : DataW H := .iface "*errors.errorString" (.ptr (.agg [.lit (.string [116, 104, 101, 114, 101, 32, 105, 115, 32, 109, 111, 114, 101, 32, 116, 104, 97, 110, 32, 109, 97, 121, 32, 98, 101])]))
def laid_ambler_api_ErrBroken {H : Type} : DataW H := .iface "*errors.errorString" (.ptr (.agg [.lit (.string [115, 111, 109, 101, 116, 104, 105, 110, 103, 32, 116, 104, 97, 116, 32, 109, 117, 115, 116, 32, 98, 101, 32, 115, 111, 32, 105, 115, 32, 110, 111, 116])]))
def laid_ambler_api_ErrLimit {H : Type} : DataW H := .iface "*errors.errorString" (.ptr (.agg [.lit (.string [97, 32, 108, 105, 109, 105, 116, 32, 105, 115, 32, 112, 97, 115, 115, 101, 100])]))
def laid_ambler_api_ErrEmpty {H : Type} : DataW H := .iface "*errors.errorString" (.ptr (.agg [.lit (.string [116, 104, 101, 114, 101, 32, 105, 115, 32, 110, 111, 116, 104, 105, 110, 103, 32, 105, 110, 32, 105, 116])]))
def laid_ambler_api_ErrNumber {H : Type} : DataW H := .iface "*errors.errorString" (.ptr (.agg [.lit (.string [116, 104, 101, 32, 116, 101, 120, 116, 32, 105, 115, 32, 110, 111, 32, 110, 117, 109, 98, 101, 114])]))
def laid_ambler_api_ErrKind {H : Type} : DataW H := .iface "*errors.errorString" (.ptr (.agg [.lit (.string [105, 116, 32, 105, 115, 32, 111, 102, 32, 97, 110, 111, 116, 104, 101, 114, 32, 107, 105, 110, 100])]))
def laid_ambler_api_ErrName {H : Type} : DataW H := .iface "*errors.errorString" (.ptr (.agg [.lit (.string [116, 104, 101, 114, 101, 32, 105, 115, 32, 110, 111, 32, 115, 117, 99, 104, 32, 110, 97, 109, 101])]))
def laid_ambler_api_ErrDup {H : Type} : DataW H := .iface "*errors.errorString" (.ptr (.agg [.lit (.string [105, 116, 32, 105, 115, 32, 116, 104, 101, 114, 101, 32, 97, 108, 114, 101, 97, 100, 121])]))

/-- 'amblerlaw28.FmapActs': WHATEVER THE INPUT: true; the input reads as it did. -/
def fmapActsSpec : ChangeSpec := { name := "fmapActs", fn := fun _ => fun
  | [d1, d2] => { results := [.lit (.bool true)], args := [d1, d2] }
  | _ => none }
def fmapActsRow : OpenClaim := { program := "ytnfjjbpmhcbelaagreatdoor", sum := "c91f442ea6162a3ef83aed6819328fbcf63657627efe3e0258b567e388e0165a", func := "ambler/amblerlaw28.FmapActs", spec := "fmapActs", inPlace := ["math.Float64bits", "math.Float64frombits", "internal/reflectlite.TypeOf"], unfollowed := true, recurses := true, named := ["ambler/api.ErrRange", "ambler/api.ErrFull", "math/bits.deBruijn64tab", "ambler/api.ErrState", "ambler/api.ErrNone", "ambler/api.ErrDup", "ambler/api.ErrKind", "ambler/api.ErrForm", "ambler/api.ErrBroken", "ambler/api.ErrLimit", "ambler/api.ErrEmpty", "ambler/api.ErrBadIter", "ambler/api.ErrTooMany", "ambler/api.ErrHash", "ambler/api.ErrLong", "ambler/api.ErrNumber", "ambler/api.ErrName"], apart := false, laid := [("math/bits.deBruijn64tab", laid_math_bits_deBruijn64tab), ("ambler/api.ErrRange", laid_ambler_api_ErrRange), ("ambler/api.ErrFull", laid_ambler_api_ErrFull), ("ambler/api.ErrForm", laid_ambler_api_ErrForm), ("ambler/api.ErrNone", laid_ambler_api_ErrNone), ("ambler/api.ErrState", laid_ambler_api_ErrState), ("ambler/api.ErrBadIter", laid_ambler_api_ErrBadIter), ("ambler/api.ErrTooMany", laid_ambler_api_ErrTooMany), ("ambler/api.ErrHash", laid_ambler_api_ErrHash), ("ambler/api.ErrLong", laid_ambler_api_ErrLong), ("ambler/api.ErrBroken", laid_ambler_api_ErrBroken), ("ambler/api.ErrLimit", laid_ambler_api_ErrLimit), ("ambler/api.ErrEmpty", laid_ambler_api_ErrEmpty), ("ambler/api.ErrNumber", laid_ambler_api_ErrNumber), ("ambler/api.ErrKind", laid_ambler_api_ErrKind), ("ambler/api.ErrName", laid_ambler_api_ErrName), ("ambler/api.ErrDup", laid_ambler_api_ErrDup)] }
def FmapActsSaid : Prop := fmapActsRow.holds Tryz.pinned (OpenSpec.ofChange fmapActsSpec)

/-- ITS FALSE NEIGHBOUR: 'it returns false'. Refute it at one input. -/
def fmapActsWrong : ChangeSpec := { name := "fmapActs", fn := fun _ => fun
  | [d1, d2] => { results := [.lit (.bool false)], args := [d1, d2] }
  | _ => none }
def FmapActsWrongFalsely : Prop := fmapActsRow.holds Tryz.pinned (OpenSpec.ofChange fmapActsWrong)

/- THE SECOND FORM. 'bulk': how many values and letters a reading holds, each counted each time it is reached (what is shared counts as often as it is met; a slice's spare places count too). A statement '..UptoSaid' is the law's where the arguments, and the package variables that the reading takes, are together of bulk at most 1048576: NARROWER than '..Said'. Prove '..Said' where nothing that the law and all that it calls make is longer than what came in: it says more and counts as full. Else prove '..UptoSaid'. A law counts once. -/
mutual
def uptoBulk {H : Type} : DataW H → Nat
  | .lit (.string bytes) => bytes.length + 1
  | .lit _ => 1
  | .nil => 1
  | .ptr d => uptoBulk d + 1
  | .slice elems spare => uptoBulkAll elems + uptoBulkAll spare + 1
  | .agg parts => uptoBulkAll parts + 1
  | .iface _ d => uptoBulk d + 1
  | .map entries => uptoBulkEntries entries + 1
  | .held _ => 1
def uptoBulkAll {H : Type} : List (DataW H) → Nat
  | [] => 0
  | d :: r => uptoBulk d + uptoBulkAll r
def uptoBulkEntries {H : Type} : List (Lit × DataW H) → Nat
  | [] => 0
  | x :: r => uptoBulkEntry x + uptoBulkEntries r
def uptoBulkEntry {H : Type} : Lit × DataW H → Nat
  | (.string bytes, d) => bytes.length + uptoBulk d + 1
  | (_, d) => uptoBulk d + 1
 end
def uptoSmall : (H : Type) → List (DataW H) → Bool := fun _ ds => decide (uptoBulkAll ds ≤ 1048576)
def OpenSpec.upto (s : _root_.Go.ChangeSpec) : _root_.Go.OpenSpec := { _root_.Go.OpenSpec.ofChange s with cond := some uptoSmall }

/-- 'amblerlaw28.FmapActs', WHERE WHAT IT READS IS OF BULK AT MOST 1048576: true; the input reads as it did. -/
def fmapActsUptoRow : OpenClaim := { program := "ytnfjjbpmhcbelaagreatdoor", sum := "c91f442ea6162a3ef83aed6819328fbcf63657627efe3e0258b567e388e0165a", func := "ambler/amblerlaw28.FmapActs", spec := "fmapActs", inPlace := ["math.Float64bits", "math.Float64frombits", "internal/reflectlite.TypeOf"], unfollowed := true, recurses := true, named := ["ambler/api.ErrRange", "ambler/api.ErrFull", "math/bits.deBruijn64tab", "ambler/api.ErrState", "ambler/api.ErrNone", "ambler/api.ErrDup", "ambler/api.ErrKind", "ambler/api.ErrForm", "ambler/api.ErrBroken", "ambler/api.ErrLimit", "ambler/api.ErrEmpty", "ambler/api.ErrBadIter", "ambler/api.ErrTooMany", "ambler/api.ErrHash", "ambler/api.ErrLong", "ambler/api.ErrNumber", "ambler/api.ErrName"], apart := false, laid := [("math/bits.deBruijn64tab", laid_math_bits_deBruijn64tab), ("ambler/api.ErrRange", laid_ambler_api_ErrRange), ("ambler/api.ErrFull", laid_ambler_api_ErrFull), ("ambler/api.ErrForm", laid_ambler_api_ErrForm), ("ambler/api.ErrNone", laid_ambler_api_ErrNone), ("ambler/api.ErrState", laid_ambler_api_ErrState), ("ambler/api.ErrBadIter", laid_ambler_api_ErrBadIter), ("ambler/api.ErrTooMany", laid_ambler_api_ErrTooMany), ("ambler/api.ErrHash", laid_ambler_api_ErrHash), ("ambler/api.ErrLong", laid_ambler_api_ErrLong), ("ambler/api.ErrBroken", laid_ambler_api_ErrBroken), ("ambler/api.ErrLimit", laid_ambler_api_ErrLimit), ("ambler/api.ErrEmpty", laid_ambler_api_ErrEmpty), ("ambler/api.ErrNumber", laid_ambler_api_ErrNumber), ("ambler/api.ErrKind", laid_ambler_api_ErrKind), ("ambler/api.ErrName", laid_ambler_api_ErrName), ("ambler/api.ErrDup", laid_ambler_api_ErrDup)], narrowed := true }
def FmapActsUptoSaid : Prop := fmapActsUptoRow.holds Tryz.pinned (OpenSpec.upto fmapActsSpec)

end Rows
end Go.Proofs.YtnfjjbpmhcbelaaGreatDoor
