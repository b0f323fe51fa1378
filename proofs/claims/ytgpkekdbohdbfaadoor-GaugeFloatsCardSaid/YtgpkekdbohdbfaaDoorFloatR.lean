/- The plain law of rounding a float's word by its bits. No program in sight. -/
import Derived.Test.YtgpkekdbohdbfaaDoorFloatP
namespace Go.Proofs.YtgpkekdbohdbfaaDoor.AmF

theorem and_high (a k : Nat) (ha : a < 18446744073709551616) (hk : k ≤ 64) : a &&& (18446744073709551615 - (2 ^ k - 1)) = a / 2 ^ k * 2 ^ k := by
  have hp := Nat.two_pow_pos k
  have e64 : (2 : Nat) ^ 64 = 18446744073709551616 := by decide
  have hle : 2 ^ k ≤ 2 ^ 64 := Nat.pow_le_pow_right (by decide) hk
  have e1 : 18446744073709551615 - (2 ^ k - 1) = (2 ^ (64 - k) - 1) <<< k := by
    rw [Nat.shiftLeft_eq, Nat.sub_mul, ← Nat.pow_add, show 64 - k + k = 64 by omega, e64]
    omega
  have e2 : a / 2 ^ k * 2 ^ k = (a >>> k) <<< k := by rw [Nat.shiftLeft_eq, Nat.shiftRight_eq_div_pow]
  rw [e1, e2]
  apply Nat.eq_of_testBit_eq
  intro j
  rw [Nat.testBit_and, Nat.testBit_shiftLeft, Nat.testBit_shiftLeft, Nat.testBit_shiftRight, Nat.testBit_two_pow_sub_one]
  by_cases hj : j ≥ k
  · rw [show k + (j - k) = j by omega]
    simp only [hj, decide_true, Bool.true_and]
    by_cases h64 : j < 64
    · have : j - k < 64 - k := by omega
      simp [this]
    · have : a.testBit j = false := Nat.testBit_lt_two_pow (Nat.lt_of_lt_of_le (by rw [← e64] at ha; exact ha) (Nat.pow_le_pow_right (by decide) (by omega)))
      rw [this]; simp
  · simp [hj]
theorem half_shift {d : Nat} (h : d ≤ 51) : (2251799813685248 : Int) / 2 ^ d = ((2 ^ (51 - d) : Nat) : Int) := by
  have e : (2251799813685248 : Nat) = 2 ^ (51 - d) * 2 ^ d := by rw [← Nat.pow_add, show 51 - d + d = 51 by omega]
  have : (2251799813685248 : Nat) / 2 ^ d = 2 ^ (51 - d) := by rw [e, Nat.mul_div_cancel _ (Nat.two_pow_pos d)]
  rw [← this]
  simp
theorem frac_shift {d : Nat} (h : d ≤ 51) : (4503599627370495 : Int) / 2 ^ d = ((2 ^ (52 - d) - 1 : Nat) : Int) := by
  have hp := Nat.two_pow_pos d
  have hq := Nat.two_pow_pos (52 - d)
  have e : (4503599627370496 : Nat) = 2 ^ (52 - d) * 2 ^ d := by rw [← Nat.pow_add, show 52 - d + d = 52 by omega]
  have : (4503599627370495 : Nat) / 2 ^ d = 2 ^ (52 - d) - 1 := by
    have e2 : (4503599627370495 : Nat) = (2 ^ d - 1) + 2 ^ d * (2 ^ (52 - d) - 1) := by
      rw [Nat.mul_sub, Nat.mul_comm, ← e]
      have : 2 ^ d ≤ 2 ^ 51 := Nat.pow_le_pow_right (by decide) h
      have e51 : (2 : Nat) ^ 51 = 2251799813685248 := by decide
      omega
    conv => lhs; rw [e2]
    rw [Nat.add_mul_div_left _ _ hp, Nat.div_eq_of_lt (by omega), Nat.zero_add]
  rw [← this]
  simp
end Go.Proofs.YtgpkekdbohdbfaaDoor.AmF
