/- script.Consistent and script.Hashes by their contracts. -/
import Derived.Test.YtoohcnjilmcimaaScriptA
import Derived.Test.YtoohcnjilmcimaaMapF
namespace Go.Proofs.Ytoohcnjilmcimaa
open Go.RowKit AmS Go.Maps

theorem zero_u64 (w : World) : (zeroValue 27).run Try.prog w = .ok (.int .u64 0) w := by kernel_rfl
theorem zero_i64 (w : World) : (zeroValue 3).run Try.prog w = .ok (.int .i64 0) w := by kernel_rfl
/-- what script.Consistent answers -/
def ConsPost (w : World) (r : Option Nat) (e : Ending) (w' : World) : Prop :=
  (match r with
   | some i => e = .returned (.tuple #[.int .i64 (i : Int), .bool false])
   | none => e = .returned (.tuple #[.int .i64 0, .bool true])) ∧ Below w.heap.size w w'
theorem cons_hit {w w' : World} {r : Option Nat} {i : Nat} (h : r = some i) (hb : Below w.heap.size w w') : ConsPost w r (.returned (.tuple #[.int .i64 (i : Int), .bool false])) w' := by
  subst h; exact ⟨rfl, hb⟩
theorem cons_end {w w' : World} {r : Option Nat} (h : r = none) (hb : Below w.heap.size w w') : ConsPost w r (.returned (.tuple #[.int .i64 0, .bool true])) w' := by
  subst h; exact ⟨rfl, hb⟩

/-- where the loop of script.Consistent stands -/
structure ConsAt (w : World) (l : List SOp) (R : Option Nat) (k : Nat) (wr : World) : Prop where
  rest : otherGo (l.take k) (l.drop k) = R
  free : free (l.take k)
  map : MapFn wr Try.prog 27 27 .u64 .u64 w.heap.size k (known (l.take k))
  below : Below w.heap.size w wr

end Go.Proofs.Ytoohcnjilmcimaa
