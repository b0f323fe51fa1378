/- The reference's words and its search for another hash, two lists of entries, and the chapter's example: by their contracts. -/
import Derived.Test.YtoohcnjilmcimaaScriptF
namespace Go.Proofs.Ytoohcnjilmcimaa
open Go.RowKit AmS

/-- what amblerref31.Other answers -/
def OtherPost (w : World) (r : Option Nat) (e : Ending) (w' : World) : Prop :=
  (match r with
   | some i => e = .returned (.int .i64 (i : Int))
   | none => e = .returned (.int .i64 (-1))) ∧ Below w.heap.size w w'
theorem other_hit {w w' : World} {r : Option Nat} {i : Nat} (h : r = some i) (hb : Below w.heap.size w w') : OtherPost w r (.returned (.int .i64 (i : Int))) w' := by
  subst h; exact ⟨rfl, hb⟩
theorem other_end {w w' : World} {r : Option Nat} (h : r = none) (hb : Below w.heap.size w w') : OtherPost w r (.returned (.int .i64 (-1))) w' := by
  subst h; exact ⟨rfl, hb⟩
/-- none of the first so many clashes -/
structure Clear (l : List SOp) (o : SOp) (j : Nat) : Prop where
  none : (l.take j).any (clash o) = false
theorem keyedR_eq (k : Int) : keyedP k = (decide (0 < k) && decide (k < 4)) := (keyed_eq k).symm

end Go.Proofs.Ytoohcnjilmcimaa
