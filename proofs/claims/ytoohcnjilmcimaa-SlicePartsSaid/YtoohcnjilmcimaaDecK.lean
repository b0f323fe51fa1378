/- words.decimal, words.Number and words.Small by their contracts. -/
import Derived.Test.YtoohcnjilmcimaaDecM
namespace Go.Proofs.Ytoohcnjilmcimaa
open Go.RowKit AmD

theorem figR_dec {l : List UInt8} (hne : l ≠ []) (hall : ∀ b ∈ l, isDig b = true) : figR false l = true := by
  unfold figR figs
  have h1 : l.all (figC false) = true := List.all_eq_true.2 fun b hb => hall b hb
  rw [h1]
  cases l with
  | nil => exact absurd rfl hne
  | cons _ _ => rfl
theorem head_data (s : ByteArray) (h : 0 < s.size) : s.data.toList = s[0] :: s.data.toList.drop 1 := by
  have h1 := List.drop_eq_getElem_cons (l := s.data.toList) (i := 0) (by simpa using h)
  rw [List.drop_zero] at h1
  exact h1
theorem noZero_head (s : ByteArray) (h : 1 < s.size) : noZero s.data.toList = (s[0] != 48) := by
  rw [head_data s (by omega)]
  cases h1 : s.data.toList.drop 1 with
  | nil =>
    have := congrArg List.length h1
    simp at this; omega
  | cons a b => rfl

end Go.Proofs.Ytoohcnjilmcimaa
