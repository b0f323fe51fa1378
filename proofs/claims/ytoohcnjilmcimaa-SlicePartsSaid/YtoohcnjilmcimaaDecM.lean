/- strconv.ParseUint, words.decimal, words.Number and words.Small by their contracts. -/
import Derived.Test.YtoohcnjilmcimaaDecN
namespace Go.Proofs.Ytoohcnjilmcimaa
open Go.RowKit AmD

theorem bytes_below {w w' : World} {T : TypeId} {s : ByteArray} (h : w' = w ∨ w' = Lib.bytesWorld w T s) : Below w.heap.size w w' := by
  rcases h with rfl | rfl
  · exact Below.refl _ _
  · exact Lib.bytesWorld_below _ _ _

end Go.Proofs.Ytoohcnjilmcimaa
