/- words.Number and words.Small by their contracts. -/
import Derived.Test.YtoohcnjilmcimaaDecK
namespace Go.Proofs.Ytoohcnjilmcimaa
open Go.RowKit AmD

theorem figR_hex {l : List UInt8} (hne : l ≠ []) (hall : ∀ b ∈ l, isHex b = true) : figR true l = true := by
  unfold figR figs
  have h1 : l.all (figC true) = true := List.all_eq_true.2 fun b hb => hall b hb
  rw [h1]
  cases l with
  | nil => exact absurd rfl hne
  | cons _ _ => rfl
theorem figR_hex_of {l : List UInt8} (h : figR true l = true) : l ≠ [] ∧ ∀ b ∈ l, isHex b = true := by
  unfold figR figs at h
  rw [Bool.and_eq_true] at h
  refine ⟨fun e => by rw [e] at h; simp at h, fun b hb => List.all_eq_true.1 h.1 b hb⟩

end Go.Proofs.Ytoohcnjilmcimaa
