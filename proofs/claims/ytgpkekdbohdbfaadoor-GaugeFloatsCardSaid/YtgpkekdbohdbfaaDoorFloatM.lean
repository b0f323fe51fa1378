/- The plain law of a float below 10 to the 12th, times 1000. No program in sight. -/
import Derived.Test.YtgpkekdbohdbfaaDoorFloatO
namespace Go.Proofs.YtgpkekdbohdbfaaDoor.AmF
open Ieee

/-- the word of 10 to the 12th; of 1000 -/
def w12 : Nat := 4786511204640096256
def w1000 : Nat := 4652007308841189376
theorem read_1000 : double.read 4652007308841189376 = .number false 8796093022208000 (-43) := by
  rw [read_norm (w := 4652007308841189376) (E := 1032) (m := 4292493394837504) (by decide) (by decide) (by decide) (by decide)]
  rfl
theorem cut_le (n d k : Nat) (h0 : 0 < n) (h : n.log2 + 1 ≤ k + d) : Toward.even.cut false n d ≤ 2 ^ k := by
  unfold Toward.cut
  have hg : (1 : Nat) <<< (min d (n.log2 + 2)) = 2 ^ (min d (n.log2 + 2)) := by rw [Nat.shiftLeft_eq, Nat.one_mul]
  simp only [hg]
  have hlow : n / 2 ^ (min d (n.log2 + 2)) < 2 ^ k := by
    rw [Nat.div_lt_iff_lt_mul (Nat.two_pow_pos _), ← Nat.pow_add]
    refine Nat.lt_of_lt_of_le (pow_of_log h0).2 (Nat.pow_le_pow_right (by decide) ?_)
    omega
  have hm : ∀ b : Bool, b.toNat ≤ 1 := by intro b; cases b <;> decide
  have := hm (decide (2 ^ min d (n.log2 + 2) < 2 * (n % 2 ^ min d (n.log2 + 2))) || (2 ^ min d (n.log2 + 2) == 2 * (n % 2 ^ min d (n.log2 + 2)) && n / 2 ^ min d (n.log2 + 2) % 2 == 1))
  omega
/-- what is below 2 to the 50th is rounded to no more than it -/
theorem nearest_low (m : Nat) (p : Int) (h : m = 0 ∨ p + (m.log2 : Int) ≤ 49) : Low (double.nearest false m p) := by
  unfold Low
  unfold Format.nearest
  by_cases h0 : m = 0
  · rw [if_pos h0]; decide
  · rw [if_neg h0]
    have hp := h.resolve_left h0
    simp only [d_least, d_frac, d_binade, d_inf]
    generalize hL : max (p + (m.log2 : Int) - ((52 : Nat) : Int)) (-1074) = L
    have hL1 : L ≤ -3 := by omega
    have hL2 : -1074 ≤ L := by omega
    have hL3 : p + (m.log2 : Int) - 52 ≤ L := by omega
    have hk : Toward.even.cut false (m <<< (p - L).toNat) (L - p).toNat ≤ 2 ^ 53 := by
      rw [Nat.shiftLeft_eq]
      refine cut_le _ _ _ (Nat.mul_pos (by omega) (Nat.two_pow_pos _)) ?_
      rw [log_mul_pow _ _ (by omega)]
      omega
    have e53 : (2 : Nat) ^ 53 = 9007199254740992 := by decide
    rw [e53] at hk
    unfold Format.word
    simp only [Bool.false_eq_true, if_false]
    have hb : (L - -1074).toNat ≤ 1071 := by omega
    generalize (L - -1074).toNat = b at *
    generalize Toward.even.cut false (m <<< (p - L).toNat) (L - p).toNat = q at *
    have := Nat.min_le_left (b * 4503599627370496 + q) 9218868437227405312
    omega
/-- times 1000: a number, at most 2 to the 50th -/
theorem mul_low {a : Nat} (h : a < 4786511204640096256) : ∃ t, double.mul a 4652007308841189376 = some t ∧ Low t := by
  unfold Format.mul
  rw [read_1000]
  by_cases hs : a < 4503599627370496
  · rw [read_small hs]
    refine ⟨_, rfl, ?_⟩
    refine nearest_low _ _ ?_
    by_cases h0 : a * 8796093022208000 = 0
    · exact .inl h0
    · right
      have := log_le (m := a * 8796093022208000) (k := 105) (by omega) (by
        have e : (2 : Nat) ^ (105 + 1) = 81129638414606681695789005144064 := by decide
        omega)
      omega
  · have hE : a = (a / 4503599627370496) * 4503599627370496 + a % 4503599627370496 := by omega
    have hf : a % 4503599627370496 < 4503599627370496 := Nat.mod_lt _ (by decide)
    have hE1 : 1 ≤ a / 4503599627370496 := by omega
    have hE2 : a / 4503599627370496 ≤ 1062 := by omega
    rw [read_norm (w := a) (E := a / 4503599627370496) (m := a % 4503599627370496) hE1 (by omega) hf hE]
    refine ⟨_, rfl, ?_⟩
    refine nearest_low _ _ (.inr ?_)
    by_cases hm : a / 4503599627370496 ≤ 1061
    · have := log_le (m := (4503599627370496 + a % 4503599627370496) * 8796093022208000) (k := 105) (by omega) (by
        have e : (2 : Nat) ^ (105 + 1) = 81129638414606681695789005144064 := by decide
        omega)
      omega
    · have := log_le (m := (4503599627370496 + a % 4503599627370496) * 8796093022208000) (k := 105) (by omega) (by
        have e : (2 : Nat) ^ (105 + 1) = 81129638414606681695789005144064 := by decide
        omega)
      omega
end Go.Proofs.YtgpkekdbohdbfaaDoor.AmF
