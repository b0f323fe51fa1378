/- Figures of base 16, and of base 10, and what they are read as. No program in sight. -/
import Derived.Test.YtoohcnjilmcimaaDecP
import Derived.Lib.ItoaNum
namespace Go.Proofs.Ytoohcnjilmcimaa
open Go AmD

def hexD (d : Nat) : UInt8 := UInt8.ofNat (if d < 10 then 48 + d else 87 + d)
def hexF : Nat → Nat → List UInt8
  | 0, n => [hexD n]
  | f + 1, n => if n < 16 then [hexD n] else hexF f (n / 16) ++ [hexD (n % 16)]
/-- the figures of base 16 of a number below 2^64 -/
def hexs (n : Nat) : List UInt8 := hexF 16 n

theorem hexF_length : ∀ (f n : Nat), (hexF f n).length ≤ f + 1
  | 0, _ => Nat.le_refl _
  | f + 1, n => by
    rw [hexF]
    split
    · simp
    · have := hexF_length f (n / 16)
      simp; omega
theorem hexs_length (n : Nat) : (hexs n).length ≤ 17 := hexF_length 16 n
theorem hexF_big (f n : Nat) (h : 16 ≤ n) : hexF (f + 1) n = hexF f (n / 16) ++ [hexD (n % 16)] := by rw [hexF, if_neg (by omega)]
theorem hexF_small (f n : Nat) (h : n < 16) : hexF f n = [hexD n] := by
  cases f with
  | zero => rfl
  | succ f => rw [hexF, if_pos h]
theorem hexD_hex (d : Nat) (h : d < 16) : isHex (hexD d) = true ∧ hexV (hexD d) = d := by
  exact match d, h with
  | 0, _ => ⟨rfl, rfl⟩ | 1, _ => ⟨rfl, rfl⟩ | 2, _ => ⟨rfl, rfl⟩ | 3, _ => ⟨rfl, rfl⟩ | 4, _ => ⟨rfl, rfl⟩ | 5, _ => ⟨rfl, rfl⟩ | 6, _ => ⟨rfl, rfl⟩ | 7, _ => ⟨rfl, rfl⟩
  | 8, _ => ⟨rfl, rfl⟩ | 9, _ => ⟨rfl, rfl⟩ | 10, _ => ⟨rfl, rfl⟩ | 11, _ => ⟨rfl, rfl⟩ | 12, _ => ⟨rfl, rfl⟩ | 13, _ => ⟨rfl, rfl⟩ | 14, _ => ⟨rfl, rfl⟩ | 15, _ => ⟨rfl, rfl⟩
  | k + 16, hk => absurd hk (by omega)
theorem hexF_says : ∀ (f n : Nat), n < 16 ^ (f + 1) → (∀ b ∈ hexF f n, isHex b = true) ∧ val16 0 (hexF f n) = n ∧ hexF f n ≠ [] ∧ (hexF f n).length ≤ f + 1
  | 0, n, h => by
    have := hexD_hex n (by simpa using h)
    refine ⟨fun b hb => ?_, ?_, by simp [hexF], by simp [hexF]⟩
    · obtain rfl : b = hexD n := by simpa [hexF] using hb
      exact this.1
    · rw [hexF, val16_cons, val16_nil, this.2]; omega
  | f + 1, n, h => by
    by_cases h16 : n < 16
    · have := hexD_hex n h16
      rw [hexF, if_pos h16]
      refine ⟨fun b hb => ?_, ?_, by simp, by simp⟩
      · obtain rfl : b = hexD n := by simpa using hb
        exact this.1
      · rw [val16_cons, val16_nil, this.2]; omega
    · have hm := hexD_hex (n % 16) (Nat.mod_lt _ (by omega))
      obtain ⟨i1, i2, i3, i4⟩ := hexF_says f (n / 16) (by rw [Nat.pow_succ] at h; exact Nat.div_lt_of_lt_mul (by rw [Nat.mul_comm]; exact h))
      rw [hexF, if_neg h16]
      refine ⟨fun b hb => ?_, ?_, by simp, by simp; omega⟩
      · rcases List.mem_append.1 hb with hb | hb
        · exact i1 b hb
        · obtain rfl : b = hexD (n % 16) := by simpa using hb
          exact hm.1
      · rw [val16_append, i2, val16_cons, val16_nil, hm.2]; omega
theorem hexF_len : ∀ (f n k : Nat), n < 16 ^ (k + 1) → (hexF f n).length ≤ k + 1
  | 0, n, k, _ => by simp [hexF]
  | f + 1, n, k, h => by
    by_cases h16 : n < 16
    · rw [hexF, if_pos h16]; simp
    · obtain ⟨j, rfl⟩ : ∃ j, k = j + 1 := by
        cases k with
        | zero => simp at h; omega
        | succ j => exact ⟨j, rfl⟩
      rw [hexF, if_neg h16]
      have := hexF_len f (n / 16) j (by rw [Nat.pow_succ] at h; exact Nat.div_lt_of_lt_mul (by rw [Nat.mul_comm]; exact h))
      simp; omega
theorem hex_hexs (n : Nat) (hn : n < 18446744073709551616) : hex (hexs n) = some n := by
  have hp : (16 : Nat) ^ (15 + 1) = 18446744073709551616 := by decide
  obtain ⟨h1, h2, h3, _⟩ := hexF_says 16 n (by rw [Nat.pow_succ, hp]; omega)
  have h4 := hexF_len 16 n 15 (by rw [hp]; exact hn)
  unfold hexs hex
  rw [if_pos ⟨h3, h1, h4⟩, h2]
theorem numOf_hexs (n : Nat) (hn : n < 18446744073709551616) : numOf (48 :: 120 :: hexs n) = some n := by
  have : numOf (48 :: 120 :: hexs n) = hex (hexs n) := by simp [numOf, Lib.hasPrefix, Lib.trimPrefix, List.isPrefixOf]
  rw [this, hex_hexs n hn]
theorem numOf_digits (n : Nat) (hn : n < 18446744073709551616) : numOf (digits n) = some n := by
  unfold numOf
  rw [if_neg, dec_digits n hn]
  intro h
  unfold Lib.hasPrefix at h
  rw [List.isPrefixOf_iff_prefix] at h
  obtain ⟨r, hr⟩ := h
  have := digits_all n 120 (by rw [← hr]; simp)
  revert this; decide
/-- the reference's rounds: what is told already, and what is still to be told -/
theorem hexF_more (f u : Nat) (done : List UInt8) : hexF (f + 1) u ++ done = if u < 16 then hexD u :: done else hexF f (u / 16) ++ (hexD (u % 16) :: done) := by
  rw [hexF]
  split <;> simp
theorem decDigits_digits (n : Nat) : Lib.decDigits n = digits n := by
  induction n using Nat.strongRecOn with
  | ind n ih =>
    rw [Lib.decDigits]
    by_cases h : n < 10
    · rw [dif_pos h, digits_small n h]; rfl
    · rw [dif_neg h, digits_great n h, ih (n / 10) (by omega)]; rfl
end Go.Proofs.Ytoohcnjilmcimaa
