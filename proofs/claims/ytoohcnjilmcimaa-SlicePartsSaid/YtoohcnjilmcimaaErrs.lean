/- The errors of package api as variables of the world; errors.Is of them; their numbers (amblernum.Num, .all). -/
import Derived.Test.YtoohcnjilmcimaaProg
import Derived.Test.YtoohcnjilmcimaaKit
import Derived.WalkKit
import Derived.WalkSpells
import Derived.WalkLawsBesides
import Derived.LaidEql
import Derived.Stop.Asserts
import Derived.RowKitTokens
import Derived.KernelRfl
import Derived.Outline
namespace Go.Proofs.Ytoohcnjilmcimaa
open Go.RowKit Go.Extern.Stop Go.Stop Go.Extern

/-! ### closed facts: errors.Is over pointers to errors.errorString -/
def cmpE : Array Value → Sem Value := Extern.ReflectliteType.method fun t => do Extern.Rtype.noPackHeld "Comparable" t; pure (.bool (← typeInfo t).comparable)
end Go.Proofs.Ytoohcnjilmcimaa
