/- words.Split by its contract: line by line, as goSplit. -/
import Derived.Test.YtoohcnjilmcimaaWordsS
import Derived.Test.YtoohcnjilmcimaaWordsL
import Derived.Deep.QuietTactic
import Derived.BigQuiet
namespace Go.Proofs.Ytoohcnjilmcimaa
open Go.RowKit AmW

/-- the text ahead of a remark -/
def CutIs (l : Bytes) (b : ByteArray) : Prop := b.data.toList = l
def CutPost (w : World) (l : Bytes) (e : Ending) (w' : World) : Prop := ∃ (b : ByteArray) (r2 : Value) (r3 : Bool) (n : Nat), CutIs l b ∧ e = .returned (.tuple #[.string b, r2, .bool r3]) ∧ w.drewN n = w'
end Go.Proofs.Ytoohcnjilmcimaa
