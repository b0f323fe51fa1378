/-
  No cell of these rows narrows 'for every input' (looked for: loops, veiled, ifaces, maps, wideKeys, modest, calm, conditions, laid).
  DERIVED. THE GIVEN ROWS OF THIS SEAT. 2 by the template 'for every input the law returns true; each argument reads behind the call as it read before'; 0 by the template 'total and deterministic' (their statements: YtoohcnjilmcimaaTotals.lean).
  GIVEN WITH THE SEED: the statements are not yours to turn. If you find one false, say at which input.
  Laid BY PROGRAM, IN A SANDBOX (cutbox-rows.mjs): the forced cells as the released guide's own fill.sh prints them over the translation a638c8fb467095a6… (all of the seat's roots in one cut). By AI agents, Wed Nov 11 2026. No macro, syntax, notation, axiom, sorry.
-/
import Derived.Test.YtoohcnjilmcimaaChecked
import GoSem.Claim
import GoSem.ClaimJoined
import GoSem.ClaimMapViews
import Derived.JoinedTies
import Derived.KernelRfl
namespace Go.Proofs.Ytoohcnjilmcimaa
/- THE CELL 'sum', in the pinned program and in every row, IS THE sha256 OF THE DUMP (.gsa) THAT YtoohcnjilmcimaaProg.lean LOADS. Nothing in Lean hashes anything: it is a label: what it is worth is what the hold of that sum in a sandbox is worth. -/
noncomputable def Try.pinned : Pinned := { name := "ytoohcnjilmcimaa", sum := "a638c8fb467095a6b8fd25a22a9cf89aae17dfeff1ce87eb3b9d5945769de5fe", checked := Try.checked }
namespace Rows
def none {H : Type} : Left H := { results := [], args := [] }

/-- 'amblerlaw38.SliceParts': WHATEVER THE INPUT: true; the input reads as it did. -/
def slicePartsSpec : ChangeSpec := { name := "sliceParts", fn := fun _ => fun
  | [d1, d2, d3] => { results := [.lit (.bool true)], args := [d1, d2, d3] }
  | _ => none }
def slicePartsRow : OpenClaim := { program := "ytoohcnjilmcimaa", sum := "a638c8fb467095a6b8fd25a22a9cf89aae17dfeff1ce87eb3b9d5945769de5fe", func := "ambler/amblerlaw38.SliceParts", spec := "sliceParts", unfollowed := true, recurses := true, apart := false }
def SlicePartsSaid : Prop := slicePartsRow.holds Try.pinned (OpenSpec.ofChange slicePartsSpec)

/-- ITS FALSE NEIGHBOUR: 'it returns false'. Refute it at one input. -/
def slicePartsWrong : ChangeSpec := { name := "sliceParts", fn := fun _ => fun
  | [d1, d2, d3] => { results := [.lit (.bool false)], args := [d1, d2, d3] }
  | _ => none }
def SlicePartsWrongFalsely : Prop := slicePartsRow.holds Try.pinned (OpenSpec.ofChange slicePartsWrong)

/-- 'amblerlaw38.SliceTwice': WHATEVER THE INPUT: true; the input reads as it did. -/
def sliceTwiceSpec : ChangeSpec := { name := "sliceTwice", fn := fun _ => fun
  | [d1, d2, d3] => { results := [.lit (.bool true)], args := [d1, d2, d3] }
  | _ => none }
def sliceTwiceRow : OpenClaim := { program := "ytoohcnjilmcimaa", sum := "a638c8fb467095a6b8fd25a22a9cf89aae17dfeff1ce87eb3b9d5945769de5fe", func := "ambler/amblerlaw38.SliceTwice", spec := "sliceTwice", unfollowed := true, recurses := true, apart := false }
def SliceTwiceSaid : Prop := sliceTwiceRow.holds Try.pinned (OpenSpec.ofChange sliceTwiceSpec)

/-- ITS FALSE NEIGHBOUR: 'it returns false'. Refute it at one input. -/
def sliceTwiceWrong : ChangeSpec := { name := "sliceTwice", fn := fun _ => fun
  | [d1, d2, d3] => { results := [.lit (.bool false)], args := [d1, d2, d3] }
  | _ => none }
def SliceTwiceWrongFalsely : Prop := sliceTwiceRow.holds Try.pinned (OpenSpec.ofChange sliceTwiceWrong)

/- THE SECOND FORM. 'bulk': how many values and letters a reading holds, each counted each time it is reached (what is shared counts as often as it is met; a slice's spare places count too). A statement '..UptoSaid' is the law's where the arguments, and the package variables that the reading takes, are together of bulk at most 1048576: NARROWER than '..Said'. Prove '..Said' where nothing that the law and all that it calls make is longer than what came in: it says more and counts as full. Else prove '..UptoSaid'. A law counts once. -/
mutual
def uptoBulk {H : Type} : DataW H → Nat
  | .lit (.string bytes) => bytes.length + 1
  | .lit _ => 1
  | .nil => 1
  | .ptr d => uptoBulk d + 1
  | .slice elems spare => uptoBulkAll elems + uptoBulkAll spare + 1
  | .agg parts => uptoBulkAll parts + 1
  | .iface _ d => uptoBulk d + 1
  | .map entries => uptoBulkEntries entries + 1
  | .held _ => 1
def uptoBulkAll {H : Type} : List (DataW H) → Nat
  | [] => 0
  | d :: r => uptoBulk d + uptoBulkAll r
def uptoBulkEntries {H : Type} : List (Lit × DataW H) → Nat
  | [] => 0
  | x :: r => uptoBulkEntry x + uptoBulkEntries r
def uptoBulkEntry {H : Type} : Lit × DataW H → Nat
  | (.string bytes, d) => bytes.length + uptoBulk d + 1
  | (_, d) => uptoBulk d + 1
 end
def uptoSmall : (H : Type) → List (DataW H) → Bool := fun _ ds => decide (uptoBulkAll ds ≤ 1048576)
def OpenSpec.upto (s : _root_.Go.ChangeSpec) : _root_.Go.OpenSpec := { _root_.Go.OpenSpec.ofChange s with cond := some uptoSmall }

/-- 'amblerlaw38.SliceParts', WHERE WHAT IT READS IS OF BULK AT MOST 1048576: true; the input reads as it did. -/
def slicePartsUptoRow : OpenClaim := { program := "ytoohcnjilmcimaa", sum := "a638c8fb467095a6b8fd25a22a9cf89aae17dfeff1ce87eb3b9d5945769de5fe", func := "ambler/amblerlaw38.SliceParts", spec := "sliceParts", unfollowed := true, recurses := true, apart := false, narrowed := true }
def SlicePartsUptoSaid : Prop := slicePartsUptoRow.holds Try.pinned (OpenSpec.upto slicePartsSpec)

/-- 'amblerlaw38.SliceTwice', WHERE WHAT IT READS IS OF BULK AT MOST 1048576: true; the input reads as it did. -/
def sliceTwiceUptoRow : OpenClaim := { program := "ytoohcnjilmcimaa", sum := "a638c8fb467095a6b8fd25a22a9cf89aae17dfeff1ce87eb3b9d5945769de5fe", func := "ambler/amblerlaw38.SliceTwice", spec := "sliceTwice", unfollowed := true, recurses := true, apart := false, narrowed := true }
def SliceTwiceUptoSaid : Prop := sliceTwiceUptoRow.holds Try.pinned (OpenSpec.upto sliceTwiceSpec)

end Rows
end Go.Proofs.Ytoohcnjilmcimaa
