/- amblerref30.Split by its contract: byte by byte, as refGo. -/
import Derived.Test.YtgpkekdbohdbfaaDoorTexts
import Derived.Test.YtgpkekdbohdbfaaDoorWordsP
import Derived.WalkKit
import Derived.WalkSpells
import Derived.WalkLawsBesides
import Derived.Outline
namespace Go.Proofs.YtgpkekdbohdbfaaDoor
open Go.RowKit AmW

theorem results_tmp4 {fn : Func} {t u v x : Tmp} (h : fn.results = #[.tmp t, .tmp u, .tmp v, .tmp x]) (tmps : Array Value) (P : Program) (w : World) :
    (results fn tmps).run P w = .ok (.tuple #[tmps.getD t undef, tmps.getD u undef, tmps.getD v undef, tmps.getD x undef]) w := by simp [results, h]

/-- what the reference answers of a text that is not too long -/
def Ref30Post (w : World) (r : Res) (e : Ending) (w' : World) : Prop :=
  match r with
  | .bad n => e = .returned (.tuple #[.slice none 0 0, .slice none 0 0, .int .i64 (n : Int), .int .i64 3]) ∧ Below w.heap.size w w'
  | .ok l => ∃ vn va vr, e = .returned (.tuple #[vn, va, .int .i64 0, .int .i64 0]) ∧ Ref30 w w' vn va vr l []

/-- where the loop stands -/
def At30 (s : ByteArray) (R : Res) (i : Nat) (acc : List (Nat × List Bytes)) (row : List Bytes) (word : Bytes) (remark : Bool) (n : Nat) : Prop :=
  (i ≤ s.size ∧ refGo acc row word remark n (s.data.toList.drop i) = R) ∨ (i = s.size + 1 ∧ row = [] ∧ R = .ok acc)

theorem drop_byte (s : ByteArray) (i : Nat) (h : i < s.size) : s.data.toList.drop i = s[i] :: s.data.toList.drop (i + 1) := by
  rw [List.drop_eq_getElem_cons (by simpa using h)]; rfl
theorem ext1 (s : ByteArray) (i : Nat) (h : i < s.size) : (s.extract i (i + 1)).data.toList = [s[i]] := by
  rw [Lib.extract_data]
  rw [show i + 1 - i = 1 by omega]
  rw [drop_byte s i h]; rfl

theorem byte_ne {b c : UInt8} {k : Int} (h : ¬ b = c) (hk : (c.toNat : Int) = k) : ((b.toNat : Int) == k) = false := by
  rw [beq_eq_false_iff_ne]
  intro e
  exact h (UInt8.toNat_inj.1 (by omega))
theorem data_append (a b : ByteArray) : (a ++ b).data.toList = a.data.toList ++ b.data.toList := by simp

end Go.Proofs.YtgpkekdbohdbfaaDoor
