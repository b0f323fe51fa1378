/- The plain law of a number's text with three figures behind the point. No program in sight. -/
import Derived.Test.YtgpkekdbohdbfaaDoorDecP
import Derived.Test.YtgpkekdbohdbfaaDoorFloatP
namespace Go.Proofs.YtgpkekdbohdbfaaDoor.AmD

/-- noughts ahead, so that there are four figures -/
def pad4 (s : Bytes) : Bytes := if s.length ≤ 3 then List.replicate (4 - s.length) 48 ++ s else s
def tail3 (n : Nat) : Bytes := [dg (n / 100 % 10), dg (n / 10 % 10), dg (n % 10)]
theorem pad4_digits (n : Nat) : pad4 (digits n) = digits (n / 1000) ++ tail3 n := by
  unfold tail3
  by_cases h1 : n < 10
  · rw [digits_small n h1, show n / 1000 = 0 by omega, digits_small 0 (by omega), show n / 100 % 10 = 0 by omega, show n / 10 % 10 = 0 by omega, show n % 10 = n by omega]
    rfl
  · by_cases h2 : n < 100
    · rw [digits_great n h1, digits_small (n / 10) (by omega), show n / 1000 = 0 by omega, digits_small 0 (by omega), show n / 100 % 10 = 0 by omega, show n / 10 % 10 = n / 10 by omega]
      rfl
    · by_cases h3 : n < 1000
      · rw [digits_great n h1, digits_great (n / 10) (by omega), digits_small (n / 10 / 10) (by omega), show n / 1000 = 0 by omega, digits_small 0 (by omega), show n / 100 % 10 = n / 10 / 10 by omega]
        rfl
      · rw [digits_great n h1, digits_great (n / 10) (by omega), digits_great (n / 10 / 10) (by omega), show n / 10 / 10 / 10 = n / 1000 by omega, show n / 10 / 10 % 10 = n / 100 % 10 by omega]
        have hne := List.length_pos_iff.2 (digits_ne (n / 1000))
        unfold pad4
        rw [if_neg (by simp only [List.length_append, List.length_cons, List.length_nil]; omega)]
        simp
theorem tail3_length (n : Nat) : (tail3 n).length = 3 := rfl
/-- the text of a number of thousandths -/
def milli (n : Nat) : Bytes := digits (n / 1000) ++ 46 :: tail3 n
theorem milli_cut (n : Nat) : (pad4 (digits n)).take ((pad4 (digits n)).length - 3) ++ 46 :: (pad4 (digits n)).drop ((pad4 (digits n)).length - 3) = milli n := by
  rw [pad4_digits, List.length_append, tail3_length, Nat.add_sub_cancel, List.take_left, List.drop_left]
  rfl
end Go.Proofs.YtgpkekdbohdbfaaDoor.AmD
