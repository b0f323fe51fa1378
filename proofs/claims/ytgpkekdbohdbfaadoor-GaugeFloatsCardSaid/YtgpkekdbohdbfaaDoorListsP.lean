/- The plain law of the least and the greatest float of a list. No program in sight. -/
import Derived.Test.YtgpkekdbohdbfaaDoorFloatO
namespace Go.Proofs.YtgpkekdbohdbfaaDoor.AmF
open Ieee

def negW (w : Nat) : Nat := w ^^^ 9223372036854775808
theorem negW_facts {w : Nat} (h : w < 18446744073709551616) : rung (negW w) = rung w ∧ sgn (negW w) = !sgn w ∧ negW w < 18446744073709551616 := by
  have h1 : (w ^^^ 9223372036854775808) / 2 ^ 63 = (w / 2 ^ 63) ^^^ (9223372036854775808 / 2 ^ 63) := Nat.xor_div_two_pow
  have h2 : (w ^^^ 9223372036854775808) % 2 ^ 63 = (w % 2 ^ 63) ^^^ (9223372036854775808 % 2 ^ 63) := Nat.xor_mod_two_pow
  have e : (2 : Nat) ^ 63 = 9223372036854775808 := by decide
  rw [e] at h1 h2
  have e1 : (9223372036854775808 : Nat) / 9223372036854775808 = 1 := by decide
  have e2 : (9223372036854775808 : Nat) % 9223372036854775808 = 0 := by decide
  rw [e1] at h1
  rw [e2, Nat.xor_zero] at h2
  have hs : w / 9223372036854775808 = 0 ∨ w / 9223372036854775808 = 1 := by omega
  refine ⟨h2, ?_, ?_⟩
  · unfold negW sgn
    rw [h1]
    rcases hs with hs | hs <;> rw [hs] <;> decide
  · unfold negW
    have h3 : (w ^^^ 9223372036854775808) / 9223372036854775808 ≤ 1 := by
      rw [h1]
      rcases hs with hs | hs <;> rw [hs] <;> decide
    omega
theorem nan_neg {w : Nat} (h : w < 18446744073709551616) : nanB (negW w) = nanB w := by
  unfold nanB
  rw [(negW_facts h).1]
theorem key_neg {w : Nat} (h : w < 18446744073709551616) : key (negW w) = -key w := by
  obtain ⟨h1, h2, _⟩ := negW_facts h
  unfold key
  rw [h1, h2]
  cases sgn w <;> simp
theorem word_of (w : Nat) (h : w < 18446744073709551616) : w = (if sgn w then 9223372036854775808 else 0) + rung w := by
  have hs : w / 9223372036854775808 = 0 ∨ w / 9223372036854775808 = 1 := by omega
  unfold sgn rung
  rcases hs with hs | hs
  · rw [hs]
    have : ((0 % 2 == 1) = true) = False := by simp
    simp
    omega
  · rw [hs]
    simp
    omega
theorem word_ext {a b : Nat} (ha : a < 18446744073709551616) (hb : b < 18446744073709551616) (h1 : sgn a = sgn b) (h2 : rung a = rung b) : a = b := by
  rw [word_of a ha, word_of b hb, h1, h2]
theorem neg_neg {w : Nat} (h : w < 18446744073709551616) : negW (negW w) = w := by
  obtain ⟨h1, h2, h3⟩ := negW_facts h
  obtain ⟨h4, h5, h6⟩ := negW_facts h3
  exact word_ext h6 h (by rw [h5, h2]; simp) (by rw [h4, h1])
/-- equal keys: one word, or two zeros -/
theorem key_eq {a b : Nat} (ha : a < 18446744073709551616) (hb : b < 18446744073709551616) (h : key a = key b) : a = b ∨ (rung a = 0 ∧ rung b = 0) := by
  unfold key at h
  by_cases h0 : rung a = 0
  · right
    refine ⟨h0, ?_⟩
    rw [h0] at h
    cases hsa : sgn a <;> cases hsb : sgn b <;> simp [hsa, hsb] at h <;> omega
  · left
    apply word_ext ha hb
    · cases hsa : sgn a <;> cases hsb : sgn b <;> simp [hsa, hsb] at h ⊢ <;> omega
    · cases hsa : sgn a <;> cases hsb : sgn b <;> simp [hsa, hsb] at h <;> omega

/-- math.Min of two that are numbers -/
def pick (x y : Nat) : Nat :=
  if double.read x == .infinity true || double.read y == .infinity true then double.write (.infinity true)
  else if (double.read x).isNaN || (double.read y).isNaN then 9221120237041090561
  else if (double.read x).isZero && (double.read y).isZero then (if (double.read x).neg == true then x else y)
  else if (double.read x).order (double.read y) == some .lt then x else y
/-- the statement's step to the least -/
def lessB (x least : Nat) : Bool := decide (key x < key least) || (decide (rung x = 0) && decide (rung least = 0) && sgn x)
theorem inf_true : double.write (.infinity true) = 18442240474082181120 := by decide
theorem nan_read (w : Nat) : (double.read w).isNaN = nanB w := by
  cases h : nanB w with
  | true => rw [read_nan h]; rfl
  | false =>
    have ha : rung w ≤ 9218868437227405312 := by have := of_decide_eq_false h; omega
    by_cases ea : rung w = 9218868437227405312
    · rw [read_inf ea]; rfl
    · obtain ⟨m, c, hr, _⟩ := read_fin (w := w) (by omega)
      rw [hr]; rfl
theorem value_pos {r : Nat} (h : 0 < r) : 0 < value r := by
  have := value_mono h
  rw [value_zero] at this; exact this
theorem zero_read {w : Nat} (h : nanB w = false) : (double.read w).isZero = decide (rung w = 0) := by
  have ha : rung w ≤ 9218868437227405312 := by have := of_decide_eq_false h; omega
  by_cases ea : rung w = 9218868437227405312
  · rw [read_inf ea, ea]; rfl
  · obtain ⟨m, c, hr, hv⟩ := read_fin (w := w) (by omega)
    rw [hr]
    by_cases h0 : rung w = 0
    · rw [h0, value_zero] at hv
      have : m = 0 := by
        rcases Nat.mul_eq_zero.1 hv with e | e
        · exact e
        · have := Nat.two_pow_pos c; omega
      rw [this, h0]; rfl
    · have hp := value_pos (r := rung w) (by omega)
      have hm : m ≠ 0 := fun e => by rw [e, Nat.zero_mul] at hv; omega
      have e2 : decide (rung w = 0) = false := by simpa using h0
      rw [e2]
      cases m with
      | zero => exact absurd rfl hm
      | succ m => rfl
theorem neg_read {w : Nat} (h : nanB w = false) : (double.read w).neg = sgn w := by
  have ha : rung w ≤ 9218868437227405312 := by have := of_decide_eq_false h; omega
  by_cases ea : rung w = 9218868437227405312
  · rw [read_inf ea]; rfl
  · obtain ⟨m, c, hr, hv⟩ := read_fin (w := w) (by omega)
    rw [hr]; rfl
theorem inf_read {w : Nat} (hw : w < 18446744073709551616) (h : nanB w = false) : (double.read w == .infinity true) = decide (w = 18442240474082181120) := by
  have ha : rung w ≤ 9218868437227405312 := by have := of_decide_eq_false h; omega
  by_cases ea : rung w = 9218868437227405312
  · rw [read_inf ea]
    cases hs : sgn w with
    | true =>
      have : w = 18442240474082181120 := by rw [word_of w hw, hs, ea]; rfl
      rw [this]; rfl
    | false =>
      have : w ≠ 18442240474082181120 := fun e => by rw [e] at hs; revert hs; decide
      have e2 : decide (w = 18442240474082181120) = false := by simpa using this
      rw [e2]; rfl
  · obtain ⟨m, c, hr, hv⟩ := read_fin (w := w) (by omega)
    rw [hr]
    have : w ≠ 18442240474082181120 := fun e => by rw [e] at ea; revert ea; decide
    have e2 : decide (w = 18442240474082181120) = false := by simpa using this
    rw [e2]; rfl
theorem key_least {w : Nat} (h : nanB w = false) : key 18442240474082181120 ≤ key w := by
  have ha : rung w ≤ 9218868437227405312 := by have := of_decide_eq_false h; omega
  have e : key 18442240474082181120 = -9218868437227405312 := by decide
  rw [e]
  unfold key
  cases sgn w <;> simp <;> omega
/-- the statement's step is math.Min -/
theorem pick_less {x least : Nat} (hx : x < 18446744073709551616) (hl : least < 18446744073709551616) (nx : nanB x = false) (nl : nanB least = false) : pick least x = if lessB x least then x else least := by
  unfold pick lessB
  rw [inf_read hl nl, inf_read hx nx, nan_read, nan_read, nx, nl, zero_read nx, zero_read nl, neg_read nl]
  have ho := order_key least x
  rw [nx, nl] at ho
  simp only [Bool.or_self, Bool.false_eq_true, if_false] at ho
  unfold Format.order at ho
  rw [ho, inf_true]
  by_cases e1 : least = 18442240474082181120
  · subst e1
    have hk := key_least nx
    have hr : rung 18442240474082181120 = 9218868437227405312 := by decide
    have e2 : decide (key x < key 18442240474082181120) = false := by rw [decide_eq_false_iff_not]; omega
    rw [e2, hr]
    simp
  · by_cases e2 : x = 18442240474082181120
    · subst e2
      have hk := key_least nl
      have hne : key 18442240474082181120 ≠ key least := by
        intro e
        rcases key_eq (by decide) hl e with h | ⟨h, _⟩
        · exact e1 h.symm
        · revert h; decide
      have e3 : decide (key 18442240474082181120 < key least) = true := by rw [decide_eq_true_iff]; omega
      rw [e3]
      simp
    · have d1 : decide (least = 18442240474082181120) = false := by simpa using e1
      have d2 : decide (x = 18442240474082181120) = false := by simpa using e2
      rw [d1, d2]
      simp only [Bool.or_self, Bool.false_eq_true, if_false]
      by_cases hz : rung least = 0 ∧ rung x = 0
      · obtain ⟨z1, z2⟩ := hz
        have k1 : key least = 0 := by unfold key; rw [z1]; simp
        have k2 : key x = 0 := by unfold key; rw [z2]; simp
        rw [z1, z2, k1, k2]
        simp only [decide_true, Bool.and_self, if_true, Int.lt_irrefl, decide_false, Bool.false_or, Bool.true_and]
        cases s1 : sgn least <;> cases s2 : sgn x
        · simp
          exact word_ext hx hl (by rw [s1, s2]) (by rw [z1, z2])
        · simp
        · simp
        · simp
          exact word_ext hl hx (by rw [s1, s2]) (by rw [z1, z2])
      · have d3 : (decide (rung least = 0) && decide (rung x = 0)) = false := by
          rw [Bool.eq_false_iff]; intro h; simp at h; exact hz h
        have d4 : (decide (rung x = 0) && decide (rung least = 0)) = false := by rw [Bool.and_comm]; exact d3
        rw [d3, d4]
        simp only [Bool.false_eq_true, if_false, Bool.false_and, Bool.or_false]
        rcases Int.lt_trichotomy (key least) (key x) with g | g | g
        · rw [Int.compare_eq_lt.2 g]
          have : decide (key x < key least) = false := by rw [decide_eq_false_iff_not]; omega
          rw [this]; rfl
        · rw [Int.compare_eq_eq.2 g]
          have : decide (key x < key least) = false := by rw [decide_eq_false_iff_not]; omega
          rw [this]
          rcases key_eq hl hx g with h | h
          · simp [h]
          · exact absurd h hz
        · rw [Int.compare_eq_gt.2 g]
          have : decide (key x < key least) = true := by rw [decide_eq_true_iff]; omega
          rw [this]; rfl
/-- the statement's step to the greatest -/
def moreB (x most : Nat) : Bool := decide (key most < key x) || (decide (rung x = 0) && decide (rung most = 0) && !sgn x)
theorem less_neg {x most : Nat} (hx : x < 18446744073709551616) (hm : most < 18446744073709551616) : lessB (negW x) (negW most) = moreB x most := by
  unfold lessB moreB
  obtain ⟨h1, h2, _⟩ := negW_facts hx
  obtain ⟨h3, _, _⟩ := negW_facts hm
  rw [key_neg hx, key_neg hm, h1, h2, h3]
  have e1 : decide (-key x < -key most) = decide (key most < key x) := by rw [decide_eq_decide]; omega
  rw [e1]
def leastFrom (least : Nat) (l : List Nat) : Nat := l.foldl (fun a x => if lessB x a then x else a) least
def mostFrom (most : Nat) (l : List Nat) : Nat := l.foldl (fun a x => if moreB x a then x else a) most
def words (l : List Nat) : Prop := ∀ x ∈ l, x < 18446744073709551616
theorem most_least : ∀ (l : List Nat) (a : Nat), words l → a < 18446744073709551616 → negW (leastFrom (negW a) (l.map negW)) = mostFrom a l
  | [], a, _, ha => neg_neg ha
  | x :: t, a, hl, ha => by
    have hx := hl x (by simp)
    have ht : words t := fun y hy => hl y (List.mem_cons_of_mem _ hy)
    simp only [List.map_cons, leastFrom, mostFrom, List.foldl_cons]
    rw [less_neg hx ha]
    split
    · exact most_least t x ht hx
    · exact most_least t a ht ha
end Go.Proofs.YtgpkekdbohdbfaaDoor.AmF
