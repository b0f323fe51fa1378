/- amblerref30.Split by its contract: byte by byte, as refGo. -/
import Derived.Test.YtoohcnjilmcimaaTexts
import Derived.Test.YtoohcnjilmcimaaWordsP
import Derived.WalkKit
import Derived.WalkSpells
import Derived.WalkLawsBesides
import Derived.Outline
namespace Go.Proofs.Ytoohcnjilmcimaa
open Go.RowKit AmW

theorem results_tmp4 {fn : Func} {t u v x : Tmp} (h : fn.results = #[.tmp t, .tmp u, .tmp v, .tmp x]) (tmps : Array Value) (P : Program) (w : World) :
    (results fn tmps).run P w = .ok (.tuple #[tmps.getD t undef, tmps.getD u undef, tmps.getD v undef, tmps.getD x undef]) w := by simp [results, h]

/-- where the loop stands -/
def At30 (s : ByteArray) (R : Res) (i : Nat) (acc : List (Nat × List Bytes)) (row : List Bytes) (word : Bytes) (remark : Bool) (n : Nat) : Prop :=
  (i ≤ s.size ∧ refGo acc row word remark n (s.data.toList.drop i) = R) ∨ (i = s.size + 1 ∧ row = [] ∧ R = .ok acc)

theorem drop_byte (s : ByteArray) (i : Nat) (h : i < s.size) : s.data.toList.drop i = s[i] :: s.data.toList.drop (i + 1) := by
  rw [List.drop_eq_getElem_cons (by simpa using h)]; rfl
theorem ext1 (s : ByteArray) (i : Nat) (h : i < s.size) : (s.extract i (i + 1)).data.toList = [s[i]] := by
  rw [Lib.extract_data]
  rw [show i + 1 - i = 1 by omega]
  rw [drop_byte s i h]; rfl

theorem byte_ne {b c : UInt8} {k : Int} (h : ¬ b = c) (hk : (c.toNat : Int) = k) : ((b.toNat : Int) == k) = false := by
  rw [beq_eq_false_iff_ne]
  intro e
  exact h (UInt8.toNat_inj.1 (by omega))
theorem data_append (a b : ByteArray) : (a ++ b).data.toList = a.data.toList ++ b.data.toList := by simp

end Go.Proofs.Ytoohcnjilmcimaa
