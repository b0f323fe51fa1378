/- script.many, script.Word and script.number by their contracts. -/
import Derived.Test.YtoohcnjilmcimaaScriptA
import Derived.Test.YtoohcnjilmcimaaDecL
import Derived.Test.YtoohcnjilmcimaaTextP
namespace Go.Proofs.Ytoohcnjilmcimaa
open Go.RowKit AmS AmD

theorem wordOf_at (k : Nat) (h1 : 1 ≤ k) (h8 : k ≤ 8) : wordOf (k : Int) = names.getD k [] := by
  unfold wordOf
  have : isKind (k : Int) = true := by unfold isKind; simp; omega
  rw [this]
  simp
theorem wordOf_none {k : Int} (h : isKind k = false) : wordOf k = [] := by unfold wordOf; rw [h]; rfl

end Go.Proofs.Ytoohcnjilmcimaa
