/- words.fine and words.Split by their contracts: line by line, as goSplit. -/
import Derived.Test.YtoohcnjilmcimaaTexts
import Derived.Test.YtoohcnjilmcimaaWordsP
import Derived.Test.YtoohcnjilmcimaaErrs
import Derived.Test.YtoohcnjilmcimaaShelf
import Derived.Lib.SplitLaws
import Derived.WalkKit
import Derived.WalkSpells
import Derived.WalkLawsBesides
import Derived.Outline
namespace Go.Proofs.Ytoohcnjilmcimaa
open Go.RowKit AmW

theorem fineB_take (l : Bytes) (k : Nat) (h : k < l.length) : fineB (l.take (k + 1)) = (fineB (l.take k) && fineC l[k]) := by
  unfold fineB
  rw [List.take_succ_eq_append_getElem h, List.all_append]
  simp
theorem fineC_iff (b : UInt8) : fineC b = true ↔ ¬ ((b.toNat : Int) < 32) ∧ ¬ (126 : Int) < (b.toNat : Int) := by
  unfold fineC
  have e1 : (32 : UInt8).toNat = 32 := rfl
  have e2 : (126 : UInt8).toNat = 126 := rfl
  simp only [Bool.and_eq_true, decide_eq_true_eq, UInt8.le_iff_toNat_le]
  omega

end Go.Proofs.Ytoohcnjilmcimaa
