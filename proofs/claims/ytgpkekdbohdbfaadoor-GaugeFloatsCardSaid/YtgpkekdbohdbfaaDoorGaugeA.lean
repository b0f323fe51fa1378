/- Small functions of package math by their contracts. -/
import Derived.Test.YtgpkekdbohdbfaaDoorProg
import Derived.Test.YtgpkekdbohdbfaaDoorKit
import Derived.Test.YtgpkekdbohdbfaaDoorListsP
import Derived.Test.YtgpkekdbohdbfaaDoorFloatR
import Derived.WalkKit
import Derived.WalkSpells
import Derived.WalkLawsBesides
import Derived.Laws.BitsAllLaws
import Derived.KernelRfl
import Derived.Outline
import Derived.Deep.Cut
import Derived.Deep.CutRange
namespace Go.Proofs.YtgpkekdbohdbfaaDoor
open Go.RowKit AmF

theorem order_f64 (a b : Nat) : FloatKind.f64.format.order a b = if nanB a || nanB b then none else some (compare (key a) (key b)) := order_key a b
theorem compare_refl (k : Int) : compare k k = .eq := by simp [compare, compareOfLessAndEq]
theorem neq_self (x : Nat) : (FloatKind.f64.format.order x x != some .eq) = nanB x := by
  rw [order_f64, Bool.or_self, compare_refl]
  cases nanB x <;> rfl
theorem cmp_gt (a b : Int) : (compare a b == .gt) = decide (b < a) := by
  unfold compare instOrdInt compareOfLessAndEq
  by_cases h1 : a < b
  · simp [h1]; omega
  · by_cases h2 : a = b
    · simp [h2]
    · simp [h1, h2]; omega
theorem cmp_lt (a b : Int) : (compare a b == .lt) = decide (a < b) := by
  unfold compare instOrdInt compareOfLessAndEq
  by_cases h1 : a < b
  · simp [h1]
  · by_cases h2 : a = b
    · simp [h2]
    · simp [h1, h2]
theorem cmp_eq (a b : Int) : (compare a b == .eq) = decide (a = b) := by
  unfold compare instOrdInt compareOfLessAndEq
  by_cases h1 : a < b
  · simp [h1]; omega
  · by_cases h2 : a = b
    · simp [h2]
    · simp [h1, h2]
/-- the walk's tests, of two that are no NaN -/
theorem gt_key {a b : Nat} (ha : nanB a = false) (hb : nanB b = false) : (FloatKind.f64.format.order a b == some .gt) = decide (key b < key a) := by
  rw [order_f64, ha, hb, ← cmp_gt]; rfl
theorem lt_key {a b : Nat} (ha : nanB a = false) (hb : nanB b = false) : (FloatKind.f64.format.order a b == some .lt) = decide (key a < key b) := by
  rw [order_f64, ha, hb, ← cmp_lt]; rfl
theorem eq_key {a b : Nat} (ha : nanB a = false) (hb : nanB b = false) : (FloatKind.f64.format.order a b == some .eq) = decide (key a = key b) := by
  rw [order_f64, ha, hb, ← cmp_eq]; rfl
theorem none_key {a b : Nat} (h : nanB a = true ∨ nanB b = true) : FloatKind.f64.format.order a b = none := by
  rw [order_f64]
  rcases h with h | h <;> rw [h] <;> simp

theorem negF (x : Nat) : Op.negFloat .f64 x = negW x := rfl
/-- an infinity of a sign -/
def infS (s : Bool) (x : Nat) : Bool := (rung x == 9218868437227405312) && (sgn x == s)
theorem key_max : key 9218868437227405311 = 9218868437227405311 := by decide
theorem nan_max : nanB 9218868437227405311 = false := by decide
theorem inf_gt {x : Nat} (h : nanB x = false) : (FloatKind.f64.format.order x 9218868437227405311 == some .gt) = infS false x := by
  rw [gt_key h nan_max, key_max]
  unfold nanB at h
  simp only [decide_eq_false_iff_not] at h
  unfold key infS
  rw [Bool.eq_iff_iff]
  cases sgn x
  · simp
    omega
  · simp
theorem inf_gt_nan {x : Nat} (h : nanB x = true) : (FloatKind.f64.format.order x 9218868437227405311 == some .gt) = false := by
  rw [none_key (.inl h)]; rfl
theorem infS_neg {x : Nat} (hx : x < 18446744073709551616) : infS false (negW x) = infS true x := by
  obtain ⟨h1, h2, _⟩ := negW_facts hx
  unfold infS
  rw [h1, h2]
  cases sgn x <;> rfl

theorem unary_neg (x : Nat) (W : World) : (Op.unary UnOp.neg (.float .f64 x)).run Tryd.prog W = .ok (.float .f64 (negW x)) W := rfl
theorem math_IsNaN (x : Nat) (w : World) : Calls Tryd.prog 48 #[.float .f64 x] w fun e w' => e = .returned (.bool (nanB x)) ∧ w = w' := by
  go_enter Tryd.func48, Tryd.ntmps48
  go_wp2
  go_ret
  exact ⟨ret_bool (neq_self x), rfl⟩
theorem math_IsInf_pos (x : Nat) (w : World) (h : nanB x = false) : Calls Tryd.prog 18 #[.float .f64 x, .int .i64 1] w fun e w' => e = .returned (.bool (infS false x)) ∧ w = w' := by
  have H := Lib.hid (inf_gt h)
  go_enter Tryd.func18, Tryd.ntmps18
  go_wp2
  go_ret
  exact ⟨ret_bool H.out, rfl⟩
theorem math_IsInf_neg (x : Nat) (hx : x < 18446744073709551616) (w : World) (h : nanB x = false) : Calls Tryd.prog 18 #[.float .f64 x, .int .i64 (-1)] w fun e w' => e = .returned (.bool (infS true x)) ∧ w = w' := by
  have H := Lib.hid (show (FloatKind.f64.format.order (negW x) 9218868437227405311 == some .gt) = infS true x from by rw [inf_gt (by rw [nan_neg hx]; exact h), infS_neg hx])
  have hu := unary_neg x
  go_enter Tryd.func18, Tryd.ntmps18
  go_wp2
  go_ret
  exact ⟨ret_bool H.out, rfl⟩
/-! ### the bits -/
theorem wrap_sign {x : Nat} (hx : x < 18446744073709551616) : decide (wrap64 (x : Int) < 0) = sgn x := by
  unfold wrap64
  unfold sgn
  by_cases h : x < 9223372036854775808
  · have e : x / 9223372036854775808 % 2 = 0 := by omega
    rw [e]
    simp
    omega
  · have e : x / 9223372036854775808 % 2 = 1 := by omega
    rw [e]
    simp
    omega
theorem math_NaN (w : World) : Calls Tryd.prog 25 #[] w fun e w' => e = .returned (.float .f64 9221120237041090561) ∧ w = w' := by
  have hx := @run_callFunc_extern Tryd.prog 19 _ Extern.MathFloatBits.float64frombits Tryd.func19 (by kernel_rfl) (by kernel_rfl) (by kernel_rfl) (by kernel_rfl)
  have hf := fun (n : Int) (W : World) => show (Extern.MathFloatBits.float64frombits #[.int .u64 n]).run Tryd.prog W = .ok (.float .f64 n.toNat) W from rfl
  go_enter Tryd.func25, Tryd.ntmps25
  go_wp2
  go_ret
  exact ⟨rfl, rfl⟩
theorem math_Signbit (x : Nat) (hx : x < 18446744073709551616) (w : World) : Calls Tryd.prog 26 #[.float .f64 x] w fun e w' => e = .returned (.bool (sgn x)) ∧ w = w' := by
  have HW := Lib.hid (wrap_sign hx)
  have he := @run_callFunc_extern Tryd.prog 17 _ Extern.MathFloatBits.float64bits Tryd.func17 (by kernel_rfl) (by kernel_rfl) (by kernel_rfl) (by kernel_rfl)
  have hb := fun (b : Nat) (W : World) => show (Extern.MathFloatBits.float64bits #[.float .f64 b]).run Tryd.prog W = .ok (.int .u64 (b : Int)) W from rfl
  go_enter Tryd.func26, Tryd.ntmps26
  go_wp2
  go_ret
  exact ⟨ret_bool HW.out, rfl⟩
theorem math_Min (x y : Nat) (w : World) : Calls Tryd.prog 49 #[.float .f64 x, .float .f64 y] w fun e w' => e = .returned (.float .f64 (pick x y)) ∧ w = w' := by
  have he := @run_callFunc_extern Tryd.prog 64 _ (Extern.MathDim.pick "math.archMin" true .lt) Tryd.func64 (by kernel_rfl) (by kernel_rfl) (by kernel_rfl) (by kernel_rfl)
  have hb := fun (a b : Nat) (W : World) => show (Extern.MathDim.pick "math.archMin" true .lt #[.float .f64 a, .float .f64 b]).run Tryd.prog W = .ok (.float .f64 (pick a b)) W from rfl
  go_enter Tryd.func49, Tryd.ntmps49
  go_wp2
  go_ret
  exact ⟨rfl, rfl⟩
theorem and_rung {x : Nat} (hx : x < 18446744073709551616) : bits .andNot .u64 (x : Int) 9223372036854775808 = ((rung x : Nat) : Int) := by
  have := u64_andNot_nat x 9223372036854775808 hx (by omega)
  have e : x &&& (18446744073709551615 - 9223372036854775808) = rung x := by
    rw [show 18446744073709551615 - 9223372036854775808 = 2 ^ 63 - 1 by decide, Nat.and_two_pow_sub_one_eq_mod]
    rfl
  rw [e] at this
  exact this
theorem math_Abs (x : Nat) (hx : x < 18446744073709551616) (w : World) : Calls Tryd.prog 47 #[.float .f64 x] w fun e w' => e = .returned (.float .f64 (rung x)) ∧ w = w' := by
  have ha := and_rung hx
  have he := @run_callFunc_extern Tryd.prog 17 _ Extern.MathFloatBits.float64bits Tryd.func17 (by kernel_rfl) (by kernel_rfl) (by kernel_rfl) (by kernel_rfl)
  have hb := fun (b : Nat) (W : World) => show (Extern.MathFloatBits.float64bits #[.float .f64 b]).run Tryd.prog W = .ok (.int .u64 (b : Int)) W from rfl
  have hx' := @run_callFunc_extern Tryd.prog 19 _ Extern.MathFloatBits.float64frombits Tryd.func19 (by kernel_rfl) (by kernel_rfl) (by kernel_rfl) (by kernel_rfl)
  have hf := fun (n : Nat) (W : World) => show (Extern.MathFloatBits.float64frombits #[.int .u64 (n : Int)]).run Tryd.prog W = .ok (.float .f64 n) W from rfl
  go_enter Tryd.func47, Tryd.ntmps47
  go_wp2
  go_ret
  exact ⟨rfl, rfl⟩
/-! ### rounding, of what is not below nought and at most 2 to the 50th -/
theorem shr52 {x : Nat} (h : Low x) : bits .and .u64 ((x : Int) / 4503599627370496) 2047 = ((x / 4503599627370496 : Nat) : Int) := by
  unfold Low at h
  have e : x / 4503599627370496 &&& 2047 = x / 4503599627370496 := by
    rw [show (2047 : Nat) = 2 ^ 11 - 1 by decide, Nat.and_two_pow_sub_one_eq_mod]
    exact Nat.mod_eq_of_lt (by have e11 : (2 : Nat) ^ 11 = 2048 := by decide
                               omega)
  have := u64_and_nat (x / 4503599627370496) 2047 (by omega) (by omega)
  rw [e] at this
  simpa using this
set_option maxRecDepth 100000 in
theorem math_Round_low (x : Nat) (hx : Low x) (w : World) : Calls Tryd.prog 50 #[.float .f64 x] w fun e w' => e = .returned (.float .f64 (roundW x)) ∧ w = w' := by
  have hs := shr52 hx
  have he := @run_callFunc_extern Tryd.prog 17 _ Extern.MathFloatBits.float64bits Tryd.func17 (by kernel_rfl) (by kernel_rfl) (by kernel_rfl) (by kernel_rfl)
  have hb := fun (b : Nat) (W : World) => show (Extern.MathFloatBits.float64bits #[.float .f64 b]).run Tryd.prog W = .ok (.int .u64 (b : Int)) W from rfl
  have hx' := @run_callFunc_extern Tryd.prog 19 _ Extern.MathFloatBits.float64frombits Tryd.func19 (by kernel_rfl) (by kernel_rfl) (by kernel_rfl) (by kernel_rfl)
  have hf := fun (n : Nat) (W : World) => show (Extern.MathFloatBits.float64frombits #[.int .u64 (n : Int)]).run Tryd.prog W = .ok (.float .f64 n) W from rfl
  obtain ⟨E, hE⟩ : ∃ E, E = x / 4503599627370496 := ⟨_, rfl⟩
  rw [← hE] at hs
  have HR := Lib.hid (show roundW x = if E < 1023 then (if E = 1022 then 4607182418800017408 else 0) else (x + 2 ^ (51 - (E - 1023))) / 2 ^ (52 - (E - 1023)) * 2 ^ (52 - (E - 1023)) from by unfold roundW; rw [← hE])
  have hE3 : E ≤ 1073 := by unfold Low at hx; omega
  have hx64 : x < 9223372036854775808 := by unfold Low at hx; omega
  by_cases h1 : E < 1023
  · have h1' : (E : Int) < 1023 := by omega
    have ha : bits .and .u64 (x : Int) 9223372036854775808 = 0 := by
      have := u64_and_nat x 9223372036854775808 (by omega) (by omega)
      have e : x &&& 9223372036854775808 = 0 := by
        apply Nat.eq_of_testBit_eq
        intro j
        rw [Nat.testBit_and, Nat.zero_testBit, show (9223372036854775808 : Nat) = 2 ^ 63 by decide, Nat.testBit_two_pow]
        by_cases hj : 63 = j
        · subst hj
          rw [Nat.testBit_lt_two_pow (by have e63 : (2 : Nat) ^ 63 = 9223372036854775808 := by decide
                                         omega)]
          rfl
        · simp [hj]
      rw [e] at this
      exact this
    have hf0 := fun (W : World) => show (Extern.MathFloatBits.float64frombits #[.int .u64 0]).run Tryd.prog W = .ok (.float .f64 0) W from rfl
    have hf1 := fun (W : World) => show (Extern.MathFloatBits.float64frombits #[.int .u64 4607182418800017408]).run Tryd.prog W = .ok (.float .f64 4607182418800017408) W from rfl
    have hor : bits .or .u64 0 4607182418800017408 = 4607182418800017408 := by decide
    by_cases h2 : E = 1022
    · have b2 : ((E : Int) == 1022) = true := by simp; omega
      have HV := Lib.hid (show roundW x = 4607182418800017408 from by rw [HR.out, if_pos h1, if_pos h2])
      clear hE hx hE3 hx64 h1 h2
      go_enter Tryd.func50, Tryd.ntmps50
      go_wp2
      go_ret
      exact ⟨ret_val (by rw [HV.out]; rfl), rfl⟩
    · have b2 : ((E : Int) == 1022) = false := by simp; omega
      have HV := Lib.hid (show roundW x = 0 from by rw [HR.out, if_pos h1, if_neg h2])
      clear hE hx hE3 hx64 h1 h2
      go_enter Tryd.func50, Tryd.ntmps50
      go_wp2
      go_ret
      exact ⟨ret_val (by rw [HV.out]; rfl), rfl⟩
  · have h1' : ¬ (E : Int) < 1023 := by omega
    have hE2 : (E : Int) < 1075 := by omega
    have hE1 : (1023 : Int) ≤ (E : Int) := by omega
    obtain ⟨d, hd⟩ : ∃ d, d = E - 1023 := ⟨_, rfl⟩
    have hd50 : d ≤ 50 := by omega
    obtain ⟨p, hp⟩ : ∃ p, p = 2 ^ (51 - d) := ⟨_, rfl⟩
    obtain ⟨q, hq⟩ : ∃ q, q = 2 ^ (52 - d) - 1 := ⟨_, rfl⟩
    have hsh := half_shift (d := d) (by omega)
    have hfr := frac_shift (d := d) (by omega)
    rw [← hp] at hsh
    rw [← hq] at hfr
    have hpl : p ≤ 2251799813685248 := by
      rw [hp]
      have : (2 : Nat) ^ (51 - d) ≤ 2 ^ 51 := Nat.pow_le_pow_right (by decide) (by omega)
      have e51 : (2 : Nat) ^ 51 = 2251799813685248 := by decide
      omega
    have hql : q < 4503599627370496 := by
      rw [hq]
      have h1 := Nat.two_pow_pos (52 - d)
      have : (2 : Nat) ^ (52 - d) ≤ 2 ^ 52 := Nat.pow_le_pow_right (by decide) (by omega)
      have e52 : (2 : Nat) ^ 52 = 4503599627370496 := by decide
      omega
    have HED := Lib.hid (show ((E : Int) - 1023) = (d : Int) from by omega)
    have hand : bits .andNot .u64 ((x : Int) + (p : Int)) (q : Int) = ((roundW x : Nat) : Int) := by
      have := u64_andNot_nat (x + p) q (by omega) (by omega)
      rw [hq, and_high (x + p) (52 - d) (by omega) (by omega), ← hq] at this
      rw [HR.out, if_neg h1, ← hd, ← hp, ← this]
      simp
    have hwr : IntKind.u64.wrap ((x : Int) + (p : Int)) = (x : Int) + (p : Int) := by
      unfold IntKind.wrap
      simp [IntKind.bits, IntKind.signed]
      omega
    have HSH := Lib.hid hsh
    have HFR := Lib.hid hfr
    have HAN := Lib.hid hand
    have HWR := Lib.hid hwr
    have hd0 : (d : Int) ≤ 64 := by omega
    clear hE hx hE3 hx64 h1 hd hd50 hp hq hsh hfr hpl hql hand hwr
    go_enter Tryd.func50, Tryd.ntmps50
    go_upto_region 9 with fail
    rw [HED.out]
    have hsh := HSH.out
    have hwr := HWR.out
    clear hE1 hE2
    go_upto_region 10 with fail
    have hfr := HFR.out
    have hand := HAN.out
    go_wp2
    go_ret
    exact ⟨rfl, rfl⟩
end Go.Proofs.YtgpkekdbohdbfaaDoor
