/- The plain law of floats below 2 to the 50th: what is exact, and what rounding to the nearest whole number gives. No program in sight. -/
import Ieee.Arith
namespace Go.Proofs.YtgpkekdbohdbfaaDoor.AmF
open Ieee

theorem d_sign : double.signWeight = 9223372036854775808 := by decide
theorem d_binade : double.binade = 4503599627370496 := by decide
theorem d_inf : double.infRung = 9218868437227405312 := by decide
theorem d_least : double.leastPlace = -1074 := by decide
theorem d_frac : double.fractionBits = 52 := rfl

theorem read_small {w : Nat} (h : w < 4503599627370496) : double.read w = .number false w (-1074) := by
  unfold Format.read
  simp only [d_sign, d_binade, d_inf, d_least]
  have e1 : w / 9223372036854775808 = 0 := Nat.div_eq_of_lt (by omega)
  have e2 : w % 9223372036854775808 = w := Nat.mod_eq_of_lt (by omega)
  rw [e1, e2, if_pos h]
  rfl
theorem read_norm {w E m : Nat} (hE : 1 ≤ E) (hE2 : E < 2047) (hm : m < 4503599627370496) (hw : w = E * 4503599627370496 + m) : double.read w = .number false (4503599627370496 + m) (-1074 + ((E - 1 : Nat) : Int)) := by
  unfold Format.read
  simp only [d_sign, d_binade, d_inf, d_least]
  have e1 : w / 9223372036854775808 = 0 := Nat.div_eq_of_lt (by omega)
  have e2 : w % 9223372036854775808 = w := Nat.mod_eq_of_lt (by omega)
  have e3 : w % 4503599627370496 = m := by omega
  have e4 : w / 4503599627370496 = E := by omega
  rw [e1, e2, if_neg (by omega), if_pos (by omega), e3, e4]
  rfl
theorem pow_of_log {m : Nat} (h : 0 < m) : 2 ^ m.log2 ≤ m ∧ m < 2 ^ (m.log2 + 1) := ⟨Nat.log2_self_le (by omega), Nat.lt_log2_self⟩
theorem log_le {m k : Nat} (h0 : 0 < m) (h : m < 2 ^ (k + 1)) : m.log2 ≤ k := by
  have := (Nat.log2_lt (by omega)).2 h
  omega
theorem log_mul_pow (m z : Nat) (h : 0 < m) : (m * 2 ^ z).log2 = m.log2 + z := by
  have hp := Nat.two_pow_pos z
  apply Nat.le_antisymm
  · refine log_le (Nat.mul_pos h hp) ?_
    rw [show m.log2 + z + 1 = (m.log2 + 1) + z by omega, Nat.pow_add]
    exact Nat.mul_lt_mul_of_pos_right (pow_of_log h).2 hp
  · rw [Nat.le_log2 (by have := Nat.mul_pos h hp; omega), Nat.pow_add]
    exact Nat.mul_le_mul_right _ (pow_of_log h).1

/-- the word of a number that the format has: its value is the number -/
theorem cut_exact (way : Toward) (s : Bool) (m d : Nat) (h : d ≤ (m * 2 ^ d).log2 + 2) : way.cut s (m * 2 ^ d) d = m := by
  unfold Toward.cut
  rw [Nat.min_eq_left h]
  have hg : (1 : Nat) <<< d = 2 ^ d := by rw [Nat.shiftLeft_eq, Nat.one_mul]
  have hp := Nat.two_pow_pos d
  simp only [hg]
  rw [Nat.mul_div_cancel _ hp, Nat.mul_mod_left]
  cases way <;> simp
theorem nearest_exact (m z : Nat) (p : Int) (h0 : 0 < m) (h53 : m < 9007199254740992) (hl : -1074 ≤ p + z) (hu : p + z ≤ 100) (hp : -1074 ≤ p) :
    ∃ j : Nat, double.read (double.nearest false (m * 2 ^ z) p) = .number false (m * 2 ^ j) (p + z - j) ∧ -1074 ≤ p + z - j ∧ double.nearest false (m * 2 ^ z) p < 9218868437227405312 ∧ double.nearest false (m * 2 ^ z) p = double.nearest false m (p + z) := by
  have hlog : m.log2 ≤ 52 := log_le h0 (by simpa using h53)
  have hlz := log_mul_pow m z h0
  have hmz : m * 2 ^ z ≠ 0 := by have := Nat.mul_pos h0 (Nat.two_pow_pos z); omega
  have hm0 : m ≠ 0 := by omega
  have H : ∀ (n : Nat) (q : Int) (y : Nat), n = m * 2 ^ y → q + y = p + z → double.nearest false n q = (let last := max (p + z + m.log2 - 52) (-1074); (last + 1074).toNat * 4503599627370496 + m * 2 ^ (p + z - last).toNat) := by
    intro n q y hn hq
    subst hn
    have hly := log_mul_pow m y h0
    have hmy : m * 2 ^ y ≠ 0 := by have := Nat.mul_pos h0 (Nat.two_pow_pos y); omega
    unfold Format.nearest
    rw [if_neg hmy]
    simp only [d_least, d_frac, d_binade, d_inf, hly]
    have el : q + ((m.log2 + y : Nat) : Int) - ((52 : Nat) : Int) = p + z + m.log2 - 52 := by omega
    rw [el]
    generalize hL : max (p + z + (m.log2 : Int) - 52) (-1074) = L
    have hL1 : L ≤ p + z := by omega
    have hL2 : -1074 ≤ L := by omega
    have hk : Toward.even.cut false ((m * 2 ^ y) <<< (q - L).toNat) (L - q).toNat = m * 2 ^ (p + z - L).toNat := by
      rcases Int.le_total L q with hc | hc
      · have e1 : (L - q).toNat = 0 := by omega
        have e2 : (p + z - L).toNat = y + (q - L).toNat := by omega
        have := cut_exact Toward.even false (m * 2 ^ (p + z - L).toNat) 0 (by omega)
        rw [Nat.pow_zero, Nat.mul_one] at this
        rw [e1, Nat.shiftLeft_eq, Nat.mul_assoc, ← Nat.pow_add, ← e2]
        exact this
      · have e1 : (q - L).toNat = 0 := by omega
        have e2 : y = (p + z - L).toNat + (L - q).toNat := by omega
        rw [e1, Nat.shiftLeft_eq, Nat.pow_zero, Nat.mul_one]
        conv => lhs; rw [e2]
        rw [Nat.pow_add, ← Nat.mul_assoc]
        refine cut_exact Toward.even false _ _ ?_
        rw [log_mul_pow _ _ (Nat.mul_pos h0 (Nat.two_pow_pos _))]
        omega
    rw [hk]
    unfold Format.word
    simp only [Bool.false_eq_true, if_false]
    have hkl : m * 2 ^ (p + z - L).toNat < 9007199254740992 := by
      have h1 : m * 2 ^ (p + z - L).toNat < 2 ^ (m.log2 + 1) * 2 ^ (p + z - L).toNat := Nat.mul_lt_mul_of_pos_right (pow_of_log h0).2 (Nat.two_pow_pos _)
      rw [← Nat.pow_add] at h1
      have h2 : (2 : Nat) ^ (m.log2 + 1 + (p + z - L).toNat) ≤ 2 ^ 53 := Nat.pow_le_pow_right (by decide) (by omega)
      have h3 : (2 : Nat) ^ 53 = 9007199254740992 := by decide
      omega
    have hb : (L + 1074).toNat ≤ 1174 := by omega
    have hb2 : (L - -1074).toNat = (L + 1074).toNat := by congr 1
    rw [hb2]
    apply Nat.min_eq_left
    omega
  have e1 := H (m * 2 ^ z) p z rfl rfl
  have e2 := H m (p + z) 0 (by simp) (by simp)
  have e12 : double.nearest false (m * 2 ^ z) p = double.nearest false m (p + z) := by rw [e1, e2]
  simp only at e1
  generalize hL : max (p + z + (m.log2 : Int) - 52) (-1074) = L at e1
  have hL1 : L ≤ p + z := by omega
  have hL2 : -1074 ≤ L := by omega
  refine ⟨(p + z - L).toNat, ?_, by omega, ?_, e12⟩
  · rw [e1]
    have epl : p + (z : Int) - ((p + z - L).toNat : Int) = L := by omega
    rw [epl]
    have hlo : m * 2 ^ (p + z - L).toNat < 9007199254740992 := by
      have h1 : m * 2 ^ (p + z - L).toNat < 2 ^ (m.log2 + 1) * 2 ^ (p + z - L).toNat := Nat.mul_lt_mul_of_pos_right (pow_of_log h0).2 (Nat.two_pow_pos _)
      rw [← Nat.pow_add] at h1
      have h2 : (2 : Nat) ^ (m.log2 + 1 + (p + z - L).toNat) ≤ 2 ^ 53 := Nat.pow_le_pow_right (by decide) (by omega)
      have h3 : (2 : Nat) ^ 53 = 9007199254740992 := by decide
      omega
    have hhi : -1074 < L → 4503599627370496 ≤ m * 2 ^ (p + z - L).toNat := by
      intro hlt
      have hLe : L = p + z + m.log2 - 52 := by omega
      have h1 : 2 ^ m.log2 * 2 ^ (p + z - L).toNat ≤ m * 2 ^ (p + z - L).toNat := Nat.mul_le_mul_right _ (pow_of_log h0).1
      rw [← Nat.pow_add] at h1
      have h2 : m.log2 + (p + z - L).toNat = 52 := by omega
      rw [h2] at h1
      have h3 : (2 : Nat) ^ 52 = 4503599627370496 := by decide
      omega
    generalize m * 2 ^ (p + z - L).toNat = K at hlo hhi ⊢
    clear e1 e2 e12 H hmz hlz
    by_cases hs : K < 4503599627370496
    · have hLm : L = -1074 := by omega
      subst hLm
      have : (-1074 + 1074 : Int).toNat = 0 := by decide
      rw [this, Nat.zero_mul, Nat.zero_add]
      exact read_small hs
    · have h1 := read_norm (w := (L + 1074).toNat * 4503599627370496 + K) (E := (L + 1074).toNat + 1) (m := K - 4503599627370496) (by omega) (by omega) (by omega) (by omega)
      have g1 : 4503599627370496 + (K - 4503599627370496) = K := by omega
      have g2 : (-1074 : Int) + (((L + 1074).toNat + 1 - 1 : Nat) : Int) = L := by omega
      rw [h1, g1, g2]
  · rw [e1]
    have hlo : m * 2 ^ (p + z - L).toNat < 9007199254740992 := by
      have h1 : m * 2 ^ (p + z - L).toNat < 2 ^ (m.log2 + 1) * 2 ^ (p + z - L).toNat := Nat.mul_lt_mul_of_pos_right (pow_of_log h0).2 (Nat.two_pow_pos _)
      rw [← Nat.pow_add] at h1
      have h2 : (2 : Nat) ^ (m.log2 + 1 + (p + z - L).toNat) ≤ 2 ^ 53 := Nat.pow_le_pow_right (by decide) (by omega)
      have h3 : (2 : Nat) ^ 53 = 9007199254740992 := by decide
      omega
    omega

/-! ### words of numbers from 0 to 2 to the 50th -/
/-- a word's significand, and by how many places it is cut -/
def mant (w : Nat) : Nat := if w < 4503599627370496 then w else 4503599627370496 + w % 4503599627370496
def cutBy (w : Nat) : Nat := if w < 4503599627370496 then 1074 else 1075 - w / 4503599627370496
/-- at most 2 to the 50th -/
def Low (w : Nat) : Prop := w ≤ 4832362400168542208
def whole (w : Nat) : Nat := mant w / 2 ^ cutBy w
def left_ (w : Nat) : Nat := mant w % 2 ^ cutBy w
/-- rounded to the nearest whole number, halves away from zero -/
def rounded (w : Nat) : Nat := whole w + if 2 ^ cutBy w ≤ 2 * left_ w then 1 else 0

theorem small_div (w k : Nat) (hk : 52 ≤ k) (h : w < 4503599627370496) : w / 2 ^ k = 0 :=
  Nat.div_eq_of_lt (Nat.lt_of_lt_of_le (show w < 2 ^ 52 by simpa using h) (Nat.pow_le_pow_right (by decide) hk))
theorem low_facts {w : Nat} (h : Low w) : 2 ≤ cutBy w ∧ cutBy w ≤ 1074 ∧ mant w < 9007199254740992 ∧ double.read w = .number false (mant w) (-(cutBy w : Int)) ∧ whole w ≤ 1125899906842624 := by
  unfold Low at h
  unfold mant cutBy
  by_cases hs : w < 4503599627370496
  · rw [if_pos hs, if_pos hs]
    refine ⟨by omega, by omega, by omega, read_small hs, ?_⟩
    unfold whole mant cutBy
    rw [if_pos hs, if_pos hs]
    rw [small_div w 1074 (by omega) hs]
    exact Nat.zero_le _
  · rw [if_neg hs, if_neg hs]
    have hE : w / 4503599627370496 ≤ 1073 := by omega
    have hE1 : 1 ≤ w / 4503599627370496 := by omega
    refine ⟨by omega, by omega, by omega, ?_, ?_⟩
    · rw [read_norm (w := w) (E := w / 4503599627370496) (m := w % 4503599627370496) hE1 (by omega) (by omega) (by omega)]
      congr 1
      omega
    · unfold whole mant cutBy
      rw [if_neg hs, if_neg hs]
      by_cases h73 : w / 4503599627370496 = 1073
      · rw [h73]
        have : w % 4503599627370496 = 0 := by omega
        rw [this]
        decide
      · have h4 : (4 : Nat) * 2 ^ (1075 - 2 - w / 4503599627370496) = 2 ^ (1075 - w / 4503599627370496) := by
          rw [show (4 : Nat) = 2 ^ 2 by decide, ← Nat.pow_add]
          congr 1; omega
        have h8 : (8 : Nat) ≤ 2 ^ (1075 - w / 4503599627370496) := by
          have : (2 : Nat) ^ 3 ≤ 2 ^ (1075 - w / 4503599627370496) := Nat.pow_le_pow_right (by decide) (by omega)
          simpa using this
        have h5 : (4503599627370496 + w % 4503599627370496) / 2 ^ (1075 - w / 4503599627370496) ≤ (4503599627370496 + w % 4503599627370496) / 8 := Nat.div_le_div_left h8 (by decide)
        have h6 : (4503599627370496 + w % 4503599627370496) / 8 ≤ 1125899906842623 := by omega
        omega

theorem int_of (A d : Nat) : (Datum.number false A (-(d : Int))).toInt .zero = some ((A / 2 ^ d : Nat) : Int) := by
  unfold Datum.toInt Datum.integral
  simp only
  have e0 : (-(d : Int)).toNat = 0 := by omega
  have e1 : (-(-(d : Int))).toNat = d := by omega
  rw [e0, e1, Nat.shiftLeft_eq, Nat.pow_zero, Nat.mul_one]
  unfold signed Toward.cut
  simp only [Bool.false_eq_true, if_false, Nat.shiftLeft_eq, Nat.pow_zero, Nat.mul_one, Bool.toNat_false, Nat.add_zero, Nat.one_mul]
  congr 2
  by_cases hm : A = 0
  · rw [hm]; simp
  · rcases Nat.le_total d (A.log2 + 2) with hc | hc
    · rw [Nat.min_eq_left hc]
    · rw [Nat.min_eq_right hc]
      have hl := (pow_of_log (m := A) (by omega)).2
      have h5 : A < 2 ^ (A.log2 + 2) := Nat.lt_of_lt_of_le hl (Nat.pow_le_pow_right (by decide) (by omega))
      have h6 : A < 2 ^ d := Nat.lt_of_lt_of_le h5 (Nat.pow_le_pow_right (by decide) hc)
      rw [Nat.div_eq_of_lt h5, Nat.div_eq_of_lt h6]
/-- 'int(x)' -/
theorem to_int {w : Nat} (h : Low w) : (double.read w).toInt .zero = some (whole w : Int) := by
  obtain ⟨_, _, _, h4, _⟩ := low_facts h
  rw [h4, int_of]
  rfl

/-- 'float64(n)' -/
theorem of_whole (q : Nat) (h : q < 9007199254740992) : ∃ j : Nat, j ≤ 1074 ∧ double.read (double.nearest false q 0) = .number false (q * 2 ^ j) (-(j : Int)) := by
  by_cases h0 : q = 0
  · subst h0
    obtain ⟨j, hj⟩ : ∃ j : Nat, j = 1074 := ⟨_, rfl⟩
    refine ⟨j, by omega, ?_⟩
    have : double.nearest false 0 0 = 0 := by decide
    rw [this, read_small (by decide), Nat.zero_mul, hj]
    rfl
  · obtain ⟨j, e1, e2, _, _⟩ := nearest_exact q 0 0 (by omega) h (by decide) (by decide) (by decide)
    rw [Nat.pow_zero, Nat.mul_one] at e1
    refine ⟨j, by simp at e2; omega, ?_⟩
    rw [e1]
    congr 1
    simp

theorem half_word : double.read 4602678819172646912 = .number false 4503599627370496 (-53) := by
  rw [read_norm (E := 1022) (m := 0) (by decide) (by decide) (by decide) (by decide)]
  rfl
theorem compare_nat (a b : Nat) : compare (a : Int) (b : Int) = compare a b := by
  rcases Nat.lt_trichotomy a b with h | h | h
  · rw [Nat.compare_eq_lt.2 h]; exact Int.compare_eq_lt.2 (by omega)
  · rw [Nat.compare_eq_eq.2 h]; exact Int.compare_eq_eq.2 (by omega)
  · rw [Nat.compare_eq_gt.2 h]; exact Int.compare_eq_gt.2 (by omega)

/-- 'x - float64(int(x)) >= 0.5' -/
theorem sub_half {w : Nat} (h : Low w) : ∃ r, double.sub w (double.nearest false (whole w) 0) = some r ∧ (double.order r 4602678819172646912 == some .gt || double.order r 4602678819172646912 == some .eq) = decide (2 ^ cutBy w ≤ 2 * left_ w) := by
  obtain ⟨h1, h2, h3, h4, h5⟩ := low_facts h
  obtain ⟨j, hj, hu⟩ := of_whole (whole w) (by omega)
  have hq : mant w = whole w * 2 ^ cutBy w + left_ w := by
    unfold whole left_
    rw [Nat.mul_comm]; exact (Nat.div_add_mod _ _).symm
  have hlt : left_ w < 2 ^ cutBy w := Nat.mod_lt _ (Nat.two_pow_pos _)
  generalize hM : mant w = M at *
  generalize hk : cutBy w = k at *
  generalize hQ : whole w = q at *
  generalize hR : left_ w = r at *
  obtain ⟨b, hb⟩ : ∃ b, b = max k j := ⟨_, rfl⟩
  have hbk : k ≤ b := by omega
  have hbj : j ≤ b := by omega
  have hsum : double.sub w (double.nearest false q 0) = some (double.nearest false (r * 2 ^ (b - k)) (-(b : Int))) := by
    unfold Format.sub
    rw [h4, hu]
    simp only [Datum.opposite, Datum.sum, Option.map_some]
    have eb : min (-(k : Int)) (-(j : Int)) = -(b : Int) := by omega
    rw [eb]
    have e1 : (-(k : Int) - -(b : Int)).toNat = b - k := by omega
    have e2 : (-(j : Int) - -(b : Int)).toNat = b - j := by omega
    rw [e1, e2]
    have et : signed false M (b - k) + signed (!false) (q * 2 ^ j) (b - j) = ((r * 2 ^ (b - k) : Nat) : Int) := by
      unfold signed
      simp only [Bool.false_eq_true, if_false, Bool.not_false, if_true, Nat.shiftLeft_eq]
      rw [Nat.mul_assoc, ← Nat.pow_add, show j + (b - j) = b by omega, hq, Nat.add_mul, Nat.mul_assoc, ← Nat.pow_add, show k + (b - k) = b by omega]
      omega
    rw [et]
    simp only [Format.write, Int.natAbs_natCast]
    congr 1
    generalize r * 2 ^ (b - k) = X
    have hn : (if (X : Int) = 0 then (false && !false) else decide ((X : Int) < 0)) = false := by
      split
      · rfl
      · rw [decide_eq_false_iff_not]; omega
    rw [hn]
  refine ⟨_, hsum, ?_⟩
  unfold Format.order
  rw [half_word]
  by_cases hr0 : r = 0
  · subst hr0
    rw [Nat.zero_mul]
    have e : double.nearest false 0 (-(b : Int)) = 0 := by
      unfold Format.nearest
      rw [if_pos rfl]; rfl
    have hp := Nat.two_pow_pos k
    rw [e, read_small (by decide)]
    have : decide (2 ^ k ≤ 2 * 0) = false := by rw [decide_eq_false_iff_not]; omega
    rw [this]
    decide
  · obtain ⟨i, e1, e2, _, _⟩ := nearest_exact r (b - k) (-(b : Int)) (by omega) (by omega) (by omega) (by omega) (by omega)
    have ep : -(b : Int) + ((b - k : Nat) : Int) = -(k : Int) := by omega
    rw [ep] at e1 e2
    rw [e1]
    simp only [Datum.order]
    generalize hbase : min (-(k : Int) - (i : Int)) (-53) = base
    unfold signed
    simp only [Bool.false_eq_true, if_false, Nat.shiftLeft_eq]
    rw [compare_nat, Nat.mul_assoc, ← Nat.pow_add]
    have e3 : (4503599627370496 : Nat) = 2 ^ 52 := by decide
    rw [e3, ← Nat.pow_add]
    generalize hA : i + (-(k : Int) - (i : Int) - base).toNat = A
    have hB : 52 + (-53 - base).toNat = A + (k - 1) := by omega
    rw [hB, Nat.pow_add, Nat.mul_comm (2 ^ A)]
    have hpA := Nat.two_pow_pos A
    have hkk : 2 ^ k = 2 * 2 ^ (k - 1) := by
      conv => lhs; rw [show k = (k - 1) + 1 by omega]
      rw [Nat.pow_succ, Nat.mul_comm]
    have hcmp : compare (r * 2 ^ A) (2 ^ (k - 1) * 2 ^ A) = compare r (2 ^ (k - 1)) := by
      rcases Nat.lt_trichotomy r (2 ^ (k - 1)) with g | g | g
      · rw [Nat.compare_eq_lt.2 g, Nat.compare_eq_lt.2 (Nat.mul_lt_mul_of_pos_right g hpA)]
      · rw [g, Nat.compare_eq_eq.2 rfl, Nat.compare_eq_eq.2 rfl]
      · rw [Nat.compare_eq_gt.2 g, Nat.compare_eq_gt.2 (Nat.mul_lt_mul_of_pos_right g hpA)]
    rw [hcmp, hkk]
    rcases Nat.lt_trichotomy r (2 ^ (k - 1)) with g | g | g
    · rw [Nat.compare_eq_lt.2 g]
      have : decide (2 * 2 ^ (k - 1) ≤ 2 * r) = false := by simp; omega
      rw [this]; rfl
    · rw [Nat.compare_eq_eq.2 g]
      have : decide (2 * 2 ^ (k - 1) ≤ 2 * r) = true := by simp; omega
      rw [this]; rfl
    · rw [Nat.compare_eq_gt.2 g]
      have : decide (2 * 2 ^ (k - 1) ≤ 2 * r) = true := by simp; omega
      rw [this]; rfl

/-! ### math.Round -/
def roundW (w : Nat) : Nat :=
  if w / 4503599627370496 < 1023 then (if w / 4503599627370496 = 1022 then 4607182418800017408 else 0)
  else (w + 2 ^ (51 - (w / 4503599627370496 - 1023))) / 2 ^ (52 - (w / 4503599627370496 - 1023)) * 2 ^ (52 - (w / 4503599627370496 - 1023))
theorem round_up (M k : Nat) (hk : 1 ≤ k) : (M + 2 ^ (k - 1)) / 2 ^ k = M / 2 ^ k + if 2 ^ k ≤ 2 * (M % 2 ^ k) then 1 else 0 := by
  have hp := Nat.two_pow_pos (k - 1)
  have hkk : 2 ^ k = 2 * 2 ^ (k - 1) := by
    conv => lhs; rw [show k = (k - 1) + 1 by omega]
    rw [Nat.pow_succ, Nat.mul_comm]
  rw [hkk]
  generalize 2 ^ (k - 1) = h at *
  have e := Nat.div_add_mod M (2 * h)
  have hlt : M % (2 * h) < 2 * h := Nat.mod_lt _ (by omega)
  generalize M / (2 * h) = q at *
  generalize M % (2 * h) = r at *
  subst e
  split
  · rw [show 2 * h * q + r + h = (r - h) + (2 * h) * (q + 1) by rw [Nat.mul_add]; omega, Nat.add_mul_div_left _ _ (by omega), Nat.div_eq_of_lt (by omega)]; omega
  · rw [show 2 * h * q + r + h = (r + h) + (2 * h) * q by omega, Nat.add_mul_div_left _ _ (by omega), Nat.div_eq_of_lt (by omega)]; omega
theorem round_int {w : Nat} (h : Low w) : (double.read (roundW w)).toInt .zero = some (rounded w : Int) ∧ roundW w < 9218868437227405312 := by
  have hlow := h
  unfold Low at h
  unfold roundW rounded whole left_
  by_cases hE : w / 4503599627370496 < 1023
  · rw [if_pos hE]
    by_cases h22 : w / 4503599627370496 = 1022
    · rw [if_pos h22]
      have hm : mant w = 4503599627370496 + w % 4503599627370496 := by unfold mant; rw [if_neg (by omega)]
      have hk : cutBy w = 53 := by unfold cutBy; rw [if_neg (by omega), h22]
      rw [hm, hk, read_norm (w := 4607182418800017408) (E := 1023) (m := 0) (by decide) (by decide) (by decide) (by decide)]
      have e53 : (2 : Nat) ^ 53 = 9007199254740992 := by decide
      rw [e53, if_pos (by omega)]
      have e1 : (4503599627370496 + w % 4503599627370496) / 9007199254740992 = 0 := by omega
      rw [e1]
      exact ⟨by decide, by decide⟩
    · rw [if_neg h22]
      have hr : mant w < 9007199254740992 ∧ 54 ≤ cutBy w := by
        unfold mant cutBy
        split <;> omega
      obtain ⟨hr1, hr2⟩ := hr
      have h54 : (2 : Nat) ^ 54 ≤ 2 ^ cutBy w := Nat.pow_le_pow_right (by decide) hr2
      have e54 : (2 : Nat) ^ 54 = 18014398509481984 := by decide
      rw [e54] at h54
      generalize 2 ^ cutBy w = K at *
      rw [Nat.div_eq_of_lt (by omega), Nat.mod_eq_of_lt (by omega), if_neg (by omega), read_small (by decide)]
      exact ⟨by decide, by decide⟩
  · rw [if_neg hE]
    have hns : ¬ w < 4503599627370496 := by omega
    have hm : mant w = 4503599627370496 + w % 4503599627370496 := by unfold mant; rw [if_neg hns]
    have hk : cutBy w = 1075 - w / 4503599627370496 := by unfold cutBy; rw [if_neg hns]
    rw [hm, hk]
    have hEw : w = (w / 4503599627370496) * 4503599627370496 + w % 4503599627370496 := by omega
    have hE3 : w / 4503599627370496 ≤ 1073 := by omega
    have hf : w % 4503599627370496 < 4503599627370496 := Nat.mod_lt _ (by decide)
    generalize w / 4503599627370496 = E at *
    generalize w % 4503599627370496 = f at *
    subst hEw
    obtain ⟨k, hkE⟩ : ∃ k, k = 1075 - E := ⟨_, rfl⟩
    have g1 : 51 - (E - 1023) = k - 1 := by omega
    have g2 : 52 - (E - 1023) = k := by omega
    rw [g1, g2, ← hkE]
    have hk2 : 2 ≤ k := by omega
    have hk52 : k ≤ 52 := by omega
    have e52 : 4503599627370496 = 2 ^ k * 2 ^ (52 - k) := by rw [← Nat.pow_add, show k + (52 - k) = 52 by omega]
    have hpk := Nat.two_pow_pos k
    have hdiv : (E * 4503599627370496 + f + 2 ^ (k - 1)) / 2 ^ k = (E - 1) * 2 ^ (52 - k) + (4503599627370496 + f + 2 ^ (k - 1)) / 2 ^ k := by
      have : E * 4503599627370496 + f + 2 ^ (k - 1) = (4503599627370496 + f + 2 ^ (k - 1)) + 2 ^ k * ((E - 1) * 2 ^ (52 - k)) := by
        have h1 : 2 ^ k * ((E - 1) * 2 ^ (52 - k)) = (E - 1) * 4503599627370496 := by rw [Nat.mul_left_comm, ← e52]
        rw [h1]; omega
      rw [this, Nat.add_mul_div_left _ _ hpk, Nat.add_comm]
    rw [hdiv, round_up _ _ (by omega)]
    have hR1 : 2 ^ (52 - k) ≤ (4503599627370496 + f) / 2 ^ k := by
      rw [Nat.le_div_iff_mul_le hpk, Nat.mul_comm, ← e52]; omega
    have hR2 : (4503599627370496 + f) / 2 ^ k < 2 * 2 ^ (52 - k) := by
      rw [Nat.div_lt_iff_lt_mul hpk, Nat.mul_assoc, Nat.mul_comm (2 ^ (52 - k)), ← e52]; omega
    have hR : 2 ^ (52 - k) ≤ (4503599627370496 + f) / 2 ^ k + (if 2 ^ k ≤ 2 * ((4503599627370496 + f) % 2 ^ k) then 1 else 0) ∧ (4503599627370496 + f) / 2 ^ k + (if 2 ^ k ≤ 2 * ((4503599627370496 + f) % 2 ^ k) then 1 else 0) ≤ 2 * 2 ^ (52 - k) := by
      split <;> omega
    generalize (4503599627370496 + f) / 2 ^ k + (if 2 ^ k ≤ 2 * ((4503599627370496 + f) % 2 ^ k) then 1 else 0) = R at *
    have hw : ((E - 1) * 2 ^ (52 - k) + R) * 2 ^ k = (E - 1) * 4503599627370496 + R * 2 ^ k := by
      rw [Nat.add_mul, Nat.mul_assoc, Nat.mul_comm (2 ^ (52 - k)), ← e52]
    rw [hw]
    have hlo : 4503599627370496 ≤ R * 2 ^ k := by
      rw [e52, Nat.mul_comm (2 ^ k)]
      exact Nat.mul_le_mul_right _ hR.1
    have hhi : R * 2 ^ k ≤ 9007199254740992 := by
      have h2 : 2 * 2 ^ (52 - k) * 2 ^ k = 9007199254740992 := by rw [Nat.mul_assoc, Nat.mul_comm (2 ^ (52 - k)), ← e52]
      rw [← h2]
      exact Nat.mul_le_mul_right _ hR.2
    have hq : R * 2 ^ k / 2 ^ k = R := Nat.mul_div_cancel _ hpk
    have hq2 : R * 2 ^ k = 9007199254740992 → 4503599627370496 / 2 ^ (k - 1) = R := by
      intro e
      have hkk : 2 ^ k = 2 * 2 ^ (k - 1) := by
        conv => lhs; rw [show k = (k - 1) + 1 by omega]
        rw [Nat.pow_succ, Nat.mul_comm]
      have : 4503599627370496 = R * 2 ^ (k - 1) := by
        have h3 : R * 2 ^ k = 2 * (R * 2 ^ (k - 1)) := by rw [hkk, Nat.mul_left_comm]
        omega
      rw [this]
      exact Nat.mul_div_cancel _ (Nat.two_pow_pos _)
    generalize R * 2 ^ k = K at *
    by_cases hK : K < 9007199254740992
    · rw [read_norm (w := (E - 1) * 4503599627370496 + K) (E := E) (m := K - 4503599627370496) (by omega) (by omega) (by omega) (by omega)]
      have g3 : 4503599627370496 + (K - 4503599627370496) = K := by omega
      have g4 : (-1074 : Int) + ((E - 1 : Nat) : Int) = -(k : Int) := by omega
      rw [g3, g4, int_of, hq]
      exact ⟨rfl, by omega⟩
    · have hKe : K = 9007199254740992 := by omega
      rw [read_norm (w := (E - 1) * 4503599627370496 + K) (E := E + 1) (m := 0) (by omega) (by omega) (by omega) (by omega)]
      have g4 : (-1074 : Int) + ((E + 1 - 1 : Nat) : Int) = -((k - 1 : Nat) : Int) := by omega
      rw [Nat.add_zero, g4, int_of, hq2 hKe]
      exact ⟨rfl, by omega⟩
end Go.Proofs.YtgpkekdbohdbfaaDoor.AmF
