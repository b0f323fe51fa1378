/- The plain law of the order of floats: by their words. No program in sight. -/
import Derived.Test.YtckmopailiamlaaGreatDoorFloatP
import Derived.Test.YtckmopailiamlaaGreatDoorProg
import Derived.Test.YtckmopailiamlaaGreatDoorLaneP
import Derived.WalkKit
import Derived.WalkSpells
import Derived.WalkLawsBesides
import Derived.Laws.BitsAllLaws
import Derived.KernelRfl
import Derived.Outline
import Derived.Deep.Cut
import Derived.Deep.CutRange
import Derived.Lib.ParseIntB
import Derived.Lib.Strings
import Derived.Lib.ParseIntBCases
import Derived.Laws.Closers25b
namespace Go.Proofs.YtckmopailiamlaaGreatDoor.AmF
set_option maxRecDepth 100000
open Ieee Go.RowKit AmF Go
def value (r : Nat) : Nat := if r < 4503599627370496 then r else (4503599627370496 + r % 4503599627370496) * 2 ^ (r / 4503599627370496 - 1)
theorem value_succ (r : Nat) : value r < value (r + 1) := by
 unfold value
 by_cases h : r + 1 < 4503599627370496
 ·rw [if_pos (by omega), if_pos h]; omega
 ·rw [if_neg h]
  by_cases h2 : r < 4503599627370496
  ·rw [if_pos h2]
   have e1 : (r + 1) % 4503599627370496 = 0 := by omega
   have e2 : (r + 1) / 4503599627370496 = 1 := by omega
   rw [e1, e2]
   simp; omega
  ·rw [if_neg h2]
   by_cases h3 : r % 4503599627370496 = 4503599627370495
   ·have e1 : (r + 1) % 4503599627370496 = 0 := by omega
    have e2 : (r + 1) / 4503599627370496 - 1 = (r / 4503599627370496 - 1) + 1 := by omega
    rw [h3, e1, e2, Nat.pow_succ]
    have := Nat.two_pow_pos (r / 4503599627370496 - 1)
    generalize 2 ^ (r / 4503599627370496 - 1) = p at *
    omega
   ·have e1 : (r + 1) % 4503599627370496 = r % 4503599627370496 + 1 := by omega
    have e2 : (r + 1) / 4503599627370496 = r / 4503599627370496 := by omega
    rw [e1, e2]
    exact Nat.mul_lt_mul_of_pos_right (by omega) (Nat.two_pow_pos _)
theorem value_mono {r s : Nat} (h : r < s) : value r < value s := by
 induction s with
 | zero => omega
 | succ s ih =>
  by_cases e : r = s
  ·subst e; exact value_succ r
  ·exact Nat.lt_trans (ih (by omega)) (value_succ s)
theorem value_zero : value 0 = 0 := rfl
def sgn (w : Nat) : Bool := w / 9223372036854775808 % 2 == 1
def rung (w : Nat) : Nat := w % 9223372036854775808
def nanB (w : Nat) : Bool := decide (9218868437227405312 < rung w)
def key (w : Nat) : Int := if sgn w then -(rung w : Int) else (rung w : Int)
theorem read_nan {w : Nat} (h : nanB w = true) : double.read w = .nan (sgn w) (rung w - 9218868437227405312) := by
 unfold nanB at h
 have h' := of_decide_eq_true h
 unfold rung at h'
 unfold Format.read sgn rung
 simp only [d_sign, d_binade, d_inf]
 rw [if_neg (by omega), if_neg (by omega), if_neg (by omega)]
theorem read_inf {w : Nat} (h : rung w = 9218868437227405312) : double.read w = .infinity (sgn w) := by
 unfold rung at h
 unfold Format.read sgn
 simp only [d_sign, d_binade, d_inf]
 rw [if_neg (by omega), if_neg (by omega), if_pos h]
theorem read_fin {w : Nat} (h : rung w < 9218868437227405312) : ∃ (m : Nat) (d : Nat), double.read w = .number (sgn w) m (-1074 + (d : Int)) ∧ m * 2 ^ d = value (rung w) := by
 unfold rung at h
 unfold Format.read sgn rung value
 simp only [d_sign, d_binade, d_inf, d_least]
 by_cases hs : w % 9223372036854775808 < 4503599627370496
 ·rw [if_pos hs, if_pos hs]
  exact ⟨_, 0, rfl, by simp⟩
 ·rw [if_neg hs, if_pos h, if_neg hs]
  exact ⟨_, _, rfl, rfl⟩
theorem sgn_compare (s t : Bool) (a b c : Nat) (hc : 0 < c) :
  compare (if s then -((a * c : Nat) : Int) else ((a * c : Nat) : Int)) (if t then -((b * c : Nat) : Int) else ((b * c : Nat) : Int)) = compare (if s then -(a : Int) else (a : Int)) (if t then -(b : Int) else (b : Int)) := by
 have H : ∀ u v : Int, compare (u * c) (v * c) = compare u v := by
  intro u v
  have hc' : (0 : Int) < (c : Int) := by omega
  rcases Int.lt_trichotomy u v with g | g | g
  ·rw [Int.compare_eq_lt.2 g, Int.compare_eq_lt.2 (Int.mul_lt_mul_of_pos_right g hc')]
  ·rw [g, Int.compare_eq_eq.2 rfl, Int.compare_eq_eq.2 rfl]
  ·rw [Int.compare_eq_gt.2 g, Int.compare_eq_gt.2 (Int.mul_lt_mul_of_pos_right g hc')]
 have e : ∀ (s : Bool) (a : Nat), (if s then -((a * c : Nat) : Int) else ((a * c : Nat) : Int)) = (if s then -(a : Int) else (a : Int)) * c := by
  intro s a
  cases s <;> simp [Int.natCast_mul]
  rw [Int.neg_mul]
 rw [e, e, H]
theorem val_compare (s t : Bool) (r q : Nat) : compare (if s then -(value r : Int) else (value r : Int)) (if t then -(value q : Int) else (value q : Int)) = compare (if s then -(r : Int) else (r : Int)) (if t then -(q : Int) else (q : Int)) := by
 have h1 : ∀ a, 0 < a → 0 < value a := fun a h => by have := value_mono h; rw [value_zero] at this; exact this
 have h0 : value 0 = 0 := rfl
 have hm := value_mono (r := r) (s := q)
 have hm' := value_mono (r := q) (s := r)
 have hr : r = 0 ∧ value r = 0 ∨ 0 < r ∧ 0 < value r := by
  by_cases e : r = 0
  ·subst e; exact .inl ⟨rfl, h0⟩
  ·exact .inr ⟨by omega, h1 r (by omega)⟩
 have hq : q = 0 ∧ value q = 0 ∨ 0 < q ∧ 0 < value q := by
  by_cases e : q = 0
  ·subst e; exact .inl ⟨rfl, h0⟩
  ·exact .inr ⟨by omega, h1 q (by omega)⟩
 have heq : r = q → value r = value q := fun e => by rw [e]
 generalize value r = a at *
 generalize value q = b at *
 have key : ∀ u v x y : Int, ((u < v ↔ x < y) ∧ (u = v ↔ x = y)) → compare u v = compare x y := by
  rintro u v x y ⟨g1, g2⟩
  rcases Int.lt_trichotomy u v with g | g | g
  ·rw [Int.compare_eq_lt.2 g, Int.compare_eq_lt.2 (g1.1 g)]
  ·rw [Int.compare_eq_eq.2 g, Int.compare_eq_eq.2 (g2.1 g)]
  ·have e1 : ¬ x < y := fun e => by have := g1.2 e; omega
   have e2 : ¬ x = y := fun e => by have := g2.2 e; omega
   rw [Int.compare_eq_gt.2 g, Int.compare_eq_gt.2 (by omega)]
 apply key
 rcases Nat.lt_trichotomy r q with g | g | g
 ·have := hm g
  cases s <;> cases t <;> simp <;> omega
 ·have := heq g
  cases s <;> cases t <;> simp <;> omega
 ·have := hm' g
  cases s <;> cases t <;> simp <;> omega
theorem order_key (a b : Nat) : double.order a b = if nanB a || nanB b then none else some (compare (key a) (key b)) := by
 unfold Format.order
 cases hna : nanB a with
 | true => rw [read_nan hna]; rfl
 | false =>
  cases hnb : nanB b with
  | true =>
   rw [read_nan hnb]
   simp only [Bool.or_true, if_true]
   cases double.read a <;> rfl
  | false =>
   have ha : rung a ≤ 9218868437227405312 := by have := of_decide_eq_false hna; omega
   have hb : rung b ≤ 9218868437227405312 := by have := of_decide_eq_false hnb; omega
   simp only [Bool.or_self, Bool.false_eq_true, if_false]
   by_cases ea : rung a = 9218868437227405312
   ·rw [read_inf ea]
    by_cases eb : rung b = 9218868437227405312
    ·rw [read_inf eb]
     unfold key Datum.order
     rw [ea, eb]
     cases sgn a <;> cases sgn b <;> rfl
    ·obtain ⟨n, d, hr, _⟩ := read_fin (w := b) (by omega)
     rw [hr]
     unfold key Datum.order
     rw [ea]
     cases sgn a
     ·simp only [Bool.false_eq_true, if_false]
      congr 1
      symm
      rw [Int.compare_eq_gt]
      split <;> omega
     ·simp only [if_true]
      congr 1
      symm
      rw [Int.compare_eq_lt]
      split <;> omega
   ·obtain ⟨m, c, hra, hva⟩ := read_fin (w := a) (by omega)
    rw [hra]
    by_cases eb : rung b = 9218868437227405312
    ·rw [read_inf eb]
     unfold key Datum.order
     rw [eb]
     cases sgn b
     ·simp only [Bool.false_eq_true, if_false]
      congr 1
      symm
      rw [Int.compare_eq_lt]
      split <;> omega
     ·simp only [if_true]
      congr 1
      symm
      rw [Int.compare_eq_gt]
      split <;> omega
    ·obtain ⟨n, d, hrb, hvb⟩ := read_fin (w := b) (by omega)
     rw [hrb]
     unfold Datum.order key
     simp only
     congr 1
     rw [← val_compare (sgn a) (sgn b) (rung a) (rung b), ← hva, ← hvb]
     unfold signed
     simp only [Nat.shiftLeft_eq]
     obtain ⟨x, hx⟩ : ∃ x, x = min c d := ⟨_, rfl⟩
     have e0 : min (-1074 + (c : Int)) (-1074 + (d : Int)) = -1074 + (x : Int) := by omega
     rw [e0]
     have e1 : (-1074 + (c : Int) - (-1074 + (x : Int))).toNat = c - x := by omega
     have e2 : (-1074 + (d : Int) - (-1074 + (x : Int))).toNat = d - x := by omega
     rw [e1, e2]
     have e3 : m * 2 ^ c = m * 2 ^ (c - x) * 2 ^ x := by rw [Nat.mul_assoc, ← Nat.pow_add, show c - x + x = c by omega]
     have e4 : n * 2 ^ d = n * 2 ^ (d - x) * 2 ^ x := by rw [Nat.mul_assoc, ← Nat.pow_add, show d - x + x = d by omega]
     rw [e3, e4]
     exact (sgn_compare _ _ _ _ _ (Nat.two_pow_pos x)).symm
end Go.Proofs.YtckmopailiamlaaGreatDoor.AmF

/-! The plain law of the least and the greatest float of a list. No program in sight. -/
namespace Go.Proofs.YtckmopailiamlaaGreatDoor.AmF
set_option maxRecDepth 100000
open Ieee Go.RowKit AmF Go
variable {a b w x : Nat}
def negW (w : Nat) : Nat := w ^^^ 9223372036854775808
theorem negW_facts (h : w < 18446744073709551616) : rung (negW w) = rung w ∧ sgn (negW w) = !sgn w ∧ negW w < 18446744073709551616 := by
 have h1 : (w ^^^ 9223372036854775808) / 2 ^ 63 = (w / 2 ^ 63) ^^^ (9223372036854775808 / 2 ^ 63) := Nat.xor_div_two_pow
 have h2 : (w ^^^ 9223372036854775808) % 2 ^ 63 = (w % 2 ^ 63) ^^^ (9223372036854775808 % 2 ^ 63) := Nat.xor_mod_two_pow
 have e : (2 : Nat) ^ 63 = 9223372036854775808 := by decide
 rw [e] at h1 h2
 have e1 : (9223372036854775808 : Nat) / 9223372036854775808 = 1 := by decide
 have e2 : (9223372036854775808 : Nat) % 9223372036854775808 = 0 := by decide
 rw [e1] at h1
 rw [e2, Nat.xor_zero] at h2
 have hs : w / 9223372036854775808 = 0 ∨ w / 9223372036854775808 = 1 := by omega
 refine ⟨h2, ?_, ?_⟩
 ·unfold negW sgn
  rw [h1]
  rcases hs with hs | hs <;> rw [hs] <;> decide
 ·unfold negW
  have h3 : (w ^^^ 9223372036854775808) / 9223372036854775808 ≤ 1 := by
   rw [h1]
   rcases hs with hs | hs <;> rw [hs] <;> decide
  omega
theorem nan_neg (h : w < 18446744073709551616) : nanB (negW w) = nanB w := by
 unfold nanB
 rw [(negW_facts h).1]
theorem word_of (w : Nat) (h : w < 18446744073709551616) : w = (if sgn w then 9223372036854775808 else 0) + rung w := by
 have hs : w / 9223372036854775808 = 0 ∨ w / 9223372036854775808 = 1 := by omega
 unfold sgn rung
 rcases hs with hs | hs
 ·rw [hs]
  have : ((0 % 2 == 1) = true) = False := by simp
  simp
  omega
 ·rw [hs]
  simp
  omega
theorem word_ext (ha : a < 18446744073709551616) (hb : b < 18446744073709551616) (h1 : sgn a = sgn b) (h2 : rung a = rung b) : a = b := by
 rw [word_of a ha, word_of b hb, h1, h2]
theorem key_eq (ha : a < 18446744073709551616) (hb : b < 18446744073709551616) (h : key a = key b) : a = b ∨ (rung a = 0 ∧ rung b = 0) := by
 unfold key at h
 by_cases h0 : rung a = 0
 ·right
  refine ⟨h0, ?_⟩
  rw [h0] at h
  cases hsa : sgn a <;> cases hsb : sgn b <;> simp [hsa, hsb] at h <;> omega
 ·left
  apply word_ext ha hb
  ·cases hsa : sgn a <;> cases hsb : sgn b <;> simp [hsa, hsb] at h ⊢ <;> omega
  ·cases hsa : sgn a <;> cases hsb : sgn b <;> simp [hsa, hsb] at h <;> omega
def pick (x y : Nat) : Nat :=
 if double.read x == .infinity true || double.read y == .infinity true then double.write (.infinity true)
 else if (double.read x).isNaN || (double.read y).isNaN then 9221120237041090561
 else if (double.read x).isZero && (double.read y).isZero then (if (double.read x).neg == true then x else y)
 else if (double.read x).order (double.read y) == some .lt then x else y
def lessB (x least : Nat) : Bool := decide (key x < key least) || (decide (rung x = 0) && decide (rung least = 0) && sgn x)
theorem inf_true : double.write (.infinity true) = 18442240474082181120 := by decide
theorem nan_read (w : Nat) : (double.read w).isNaN = nanB w := by
 cases h : nanB w with
 | true => rw [read_nan h]; rfl
 | false =>
  have ha : rung w ≤ 9218868437227405312 := by have := of_decide_eq_false h; omega
  by_cases ea : rung w = 9218868437227405312
  ·rw [read_inf ea]; rfl
  ·obtain ⟨m, c, hr, _⟩ := read_fin (w := w) (by omega)
   rw [hr]; rfl
theorem value_pos {r : Nat} (h : 0 < r) : 0 < value r := by
 have := value_mono h
 rw [value_zero] at this; exact this
theorem zero_read (h : nanB w = false) : (double.read w).isZero = decide (rung w = 0) := by
 have ha : rung w ≤ 9218868437227405312 := by have := of_decide_eq_false h; omega
 by_cases ea : rung w = 9218868437227405312
 ·rw [read_inf ea, ea]; rfl
 ·obtain ⟨m, c, hr, hv⟩ := read_fin (w := w) (by omega)
  rw [hr]
  by_cases h0 : rung w = 0
  ·rw [h0, value_zero] at hv
   have : m = 0 := by
    rcases Nat.mul_eq_zero.1 hv with e | e
    ·exact e
    ·have := Nat.two_pow_pos c; omega
   rw [this, h0]; rfl
  ·have hp := value_pos (r := rung w) (by omega)
   have hm : m ≠ 0 := fun e => by rw [e, Nat.zero_mul] at hv; omega
   have e2 : decide (rung w = 0) = false := by simpa using h0
   rw [e2]
   cases m with
   | zero => exact absurd rfl hm
   | succ m => rfl
theorem neg_read (h : nanB w = false) : (double.read w).neg = sgn w := by
 have ha : rung w ≤ 9218868437227405312 := by have := of_decide_eq_false h; omega
 by_cases ea : rung w = 9218868437227405312
 ·rw [read_inf ea]; rfl
 ·obtain ⟨m, c, hr, hv⟩ := read_fin (w := w) (by omega)
  rw [hr]; rfl
theorem inf_read (hw : w < 18446744073709551616) (h : nanB w = false) : (double.read w == .infinity true) = decide (w = 18442240474082181120) := by
 have ha : rung w ≤ 9218868437227405312 := by have := of_decide_eq_false h; omega
 by_cases ea : rung w = 9218868437227405312
 ·rw [read_inf ea]
  cases hs : sgn w with
  | true =>
   have : w = 18442240474082181120 := by rw [word_of w hw, hs, ea]; rfl
   rw [this]; rfl
  | false =>
   have : w ≠ 18442240474082181120 := fun e => by rw [e] at hs; revert hs; decide
   have e2 : decide (w = 18442240474082181120) = false := by simpa using this
   rw [e2]; rfl
 ·obtain ⟨m, c, hr, hv⟩ := read_fin (w := w) (by omega)
  rw [hr]
  have : w ≠ 18442240474082181120 := fun e => by rw [e] at ea; revert ea; decide
  have e2 : decide (w = 18442240474082181120) = false := by simpa using this
  rw [e2]; rfl
theorem key_least (h : nanB w = false) : key 18442240474082181120 ≤ key w := by
 have ha : rung w ≤ 9218868437227405312 := by have := of_decide_eq_false h; omega
 have e : key 18442240474082181120 = -9218868437227405312 := by decide
 rw [e]
 unfold key
 cases sgn w <;> simp <;> omega
theorem pick_less {least : Nat} (hx : x < 18446744073709551616) (hl : least < 18446744073709551616) (nx : nanB x = false) (nl : nanB least = false) : pick least x = if lessB x least then x else least := by
 unfold pick lessB
 rw [inf_read hl nl, inf_read hx nx, nan_read, nan_read, nx, nl, zero_read nx, zero_read nl, neg_read nl]
 have ho := order_key least x
 rw [nx, nl] at ho
 simp only [Bool.or_self, Bool.false_eq_true, if_false] at ho
 unfold Format.order at ho
 rw [ho, inf_true]
 by_cases e1 : least = 18442240474082181120
 ·subst e1
  have hk := key_least nx
  have hr : rung 18442240474082181120 = 9218868437227405312 := by decide
  have e2 : decide (key x < key 18442240474082181120) = false := by rw [decide_eq_false_iff_not]; omega
  rw [e2, hr]
  simp
 ·by_cases e2 : x = 18442240474082181120
  ·subst e2
   have hk := key_least nl
   have hne : key 18442240474082181120 ≠ key least := by
    intro e
    rcases key_eq (by decide) hl e with h | ⟨h, _⟩
    ·exact e1 h.symm
    ·revert h; decide
   have e3 : decide (key 18442240474082181120 < key least) = true := by rw [decide_eq_true_iff]; omega
   rw [e3]
   simp
  ·have d1 : decide (least = 18442240474082181120) = false := by simpa using e1
   have d2 : decide (x = 18442240474082181120) = false := by simpa using e2
   rw [d1, d2]
   simp only [Bool.or_self, Bool.false_eq_true, if_false]
   by_cases hz : rung least = 0 ∧ rung x = 0
   ·obtain ⟨z1, z2⟩ := hz
    have k1 : key least = 0 := by unfold key; rw [z1]; simp
    have k2 : key x = 0 := by unfold key; rw [z2]; simp
    rw [z1, z2, k1, k2]
    simp only [decide_true, Bool.and_self, if_true, Int.lt_irrefl, decide_false, Bool.false_or, Bool.true_and]
    cases s1 : sgn least <;> cases s2 : sgn x
    ·simp
     exact word_ext hx hl (by rw [s1, s2]) (by rw [z1, z2])
    ·simp
    ·simp
    ·simp
     exact word_ext hl hx (by rw [s1, s2]) (by rw [z1, z2])
   ·have d3 : (decide (rung least = 0) && decide (rung x = 0)) = false := by
     rw [Bool.eq_false_iff]; intro h; simp at h; exact hz h
    have d4 : (decide (rung x = 0) && decide (rung least = 0)) = false := by rw [Bool.and_comm]; exact d3
    rw [d3, d4]
    simp only [Bool.false_eq_true, if_false, Bool.false_and, Bool.or_false]
    rcases Int.lt_trichotomy (key least) (key x) with g | g | g
    ·rw [Int.compare_eq_lt.2 g]
     have : decide (key x < key least) = false := by rw [decide_eq_false_iff_not]; omega
     rw [this]; rfl
    ·rw [Int.compare_eq_eq.2 g]
     have : decide (key x < key least) = false := by rw [decide_eq_false_iff_not]; omega
     rw [this]
     rcases key_eq hl hx g with h | h
     ·simp [h]
     ·exact absurd h hz
    ·rw [Int.compare_eq_gt.2 g]
     have : decide (key x < key least) = true := by rw [decide_eq_true_iff]; omega
     rw [this]; rfl
def moreB (x most : Nat) : Bool := decide (key most < key x) || (decide (rung x = 0) && decide (rung most = 0) && !sgn x)
def leastFrom (least : Nat) (l : List Nat) : Nat := l.foldl (fun a x => if lessB x a then x else a) least
def mostFrom (most : Nat) (l : List Nat) : Nat := l.foldl (fun a x => if moreB x a then x else a) most
def words (l : List Nat) : Prop := ∀ x ∈ l, x < 18446744073709551616
end Go.Proofs.YtckmopailiamlaaGreatDoor.AmF

/-! The plain law of rounding a float's word by its bits. No program in sight. -/
namespace Go.Proofs.YtckmopailiamlaaGreatDoor.AmF
set_option maxRecDepth 100000
open Ieee Go.RowKit AmF Go
theorem and_high (a k : Nat) (ha : a < 18446744073709551616) (hk : k ≤ 64) : a &&& (18446744073709551615 - (2 ^ k - 1)) = a / 2 ^ k * 2 ^ k := by
 have hp := Nat.two_pow_pos k
 have e64 : (2 : Nat) ^ 64 = 18446744073709551616 := by decide
 have hle : 2 ^ k ≤ 2 ^ 64 := Nat.pow_le_pow_right (by decide) hk
 have e1 : 18446744073709551615 - (2 ^ k - 1) = (2 ^ (64 - k) - 1) <<< k := by
  rw [Nat.shiftLeft_eq, Nat.sub_mul, ← Nat.pow_add, show 64 - k + k = 64 by omega, e64]
  omega
 have e2 : a / 2 ^ k * 2 ^ k = (a >>> k) <<< k := by rw [Nat.shiftLeft_eq, Nat.shiftRight_eq_div_pow]
 rw [e1, e2]
 apply Nat.eq_of_testBit_eq
 intro j
 rw [Nat.testBit_and, Nat.testBit_shiftLeft, Nat.testBit_shiftLeft, Nat.testBit_shiftRight, Nat.testBit_two_pow_sub_one]
 by_cases hj : j ≥ k
 ·rw [show k + (j - k) = j by omega]
  simp only [hj, decide_true, Bool.true_and]
  by_cases h64 : j < 64
  ·have : j - k < 64 - k := by omega
   simp [this]
  ·have : a.testBit j = false := Nat.testBit_lt_two_pow (Nat.lt_of_lt_of_le (by rw [← e64] at ha; exact ha) (Nat.pow_le_pow_right (by decide) (by omega)))
   rw [this]; simp
 ·simp [hj]
theorem half_shift {d : Nat} (h : d ≤ 51) : (2251799813685248 : Int) / 2 ^ d = ((2 ^ (51 - d) : Nat) : Int) := by
 have e : (2251799813685248 : Nat) = 2 ^ (51 - d) * 2 ^ d := by rw [← Nat.pow_add, show 51 - d + d = 51 by omega]
 have : (2251799813685248 : Nat) / 2 ^ d = 2 ^ (51 - d) := by rw [e, Nat.mul_div_cancel _ (Nat.two_pow_pos d)]
 rw [← this]
 simp
theorem frac_shift {d : Nat} (h : d ≤ 51) : (4503599627370495 : Int) / 2 ^ d = ((2 ^ (52 - d) - 1 : Nat) : Int) := by
 have hp := Nat.two_pow_pos d
 have hq := Nat.two_pow_pos (52 - d)
 have e : (4503599627370496 : Nat) = 2 ^ (52 - d) * 2 ^ d := by rw [← Nat.pow_add, show 52 - d + d = 52 by omega]
 have : (4503599627370495 : Nat) / 2 ^ d = 2 ^ (52 - d) - 1 := by
  have e2 : (4503599627370495 : Nat) = (2 ^ d - 1) + 2 ^ d * (2 ^ (52 - d) - 1) := by
   rw [Nat.mul_sub, Nat.mul_comm, ← e]
   have : 2 ^ d ≤ 2 ^ 51 := Nat.pow_le_pow_right (by decide) h
   have e51 : (2 : Nat) ^ 51 = 2251799813685248 := by decide
   omega
  conv => lhs; rw [e2]
  rw [Nat.add_mul_div_left _ _ hp, Nat.div_eq_of_lt (by omega), Nat.zero_add]
 rw [← this]
 simp
end Go.Proofs.YtckmopailiamlaaGreatDoor.AmF

/-! Small functions of package math by their contracts. -/
namespace Go.Proofs.YtckmopailiamlaaGreatDoor
set_option maxRecDepth 100000
open Ieee Go.RowKit AmF Go
variable {a b x : Nat}
theorem order_f64 (a b : Nat) : FloatKind.f64.format.order a b = if nanB a || nanB b then none else some (compare (key a) (key b)) := order_key a b
theorem compare_refl (k : Int) : compare k k = .eq := by simp [compare, compareOfLessAndEq]
theorem neq_self (x : Nat) : (FloatKind.f64.format.order x x != some .eq) = nanB x := by
 rw [order_f64, Bool.or_self, compare_refl]
 cases nanB x <;> rfl
theorem cmp_gt (a b : Int) : (compare a b == .gt) = decide (b < a) := by
 unfold compare instOrdInt compareOfLessAndEq
 by_cases h1 : a < b
 ·simp [h1]; omega
 ·by_cases h2 : a = b
  ·simp [h2]
  ·simp [h1, h2]; omega
theorem cmp_lt (a b : Int) : (compare a b == .lt) = decide (a < b) := by
 unfold compare instOrdInt compareOfLessAndEq
 by_cases h1 : a < b
 ·simp [h1]
 ·by_cases h2 : a = b
  ·simp [h2]
  ·simp [h1, h2]
theorem cmp_eq (a b : Int) : (compare a b == .eq) = decide (a = b) := by
 unfold compare instOrdInt compareOfLessAndEq
 by_cases h1 : a < b
 ·simp [h1]; omega
 ·by_cases h2 : a = b
  ·simp [h2]
  ·simp [h1, h2]
theorem gt_key (ha : nanB a = false) (hb : nanB b = false) : (FloatKind.f64.format.order a b == some .gt) = decide (key b < key a) := by
 rw [order_f64, ha, hb, ← cmp_gt]; rfl
theorem lt_key (ha : nanB a = false) (hb : nanB b = false) : (FloatKind.f64.format.order a b == some .lt) = decide (key a < key b) := by
 rw [order_f64, ha, hb, ← cmp_lt]; rfl
theorem eq_key (ha : nanB a = false) (hb : nanB b = false) : (FloatKind.f64.format.order a b == some .eq) = decide (key a = key b) := by
 rw [order_f64, ha, hb, ← cmp_eq]; rfl
def infS (s : Bool) (x : Nat) : Bool := (rung x == 9218868437227405312) && (sgn x == s)
theorem key_max : key 9218868437227405311 = 9218868437227405311 := by decide
theorem nan_max : nanB 9218868437227405311 = false := by decide
theorem inf_gt (h : nanB x = false) : (FloatKind.f64.format.order x 9218868437227405311 == some .gt) = infS false x := by
 rw [gt_key h nan_max, key_max]
 unfold nanB at h
 simp only [decide_eq_false_iff_not] at h
 unfold key infS
 rw [Bool.eq_iff_iff]
 cases sgn x
 ·simp
  omega
 ·simp
theorem infS_neg (hx : x < 18446744073709551616) : infS false (negW x) = infS true x := by
 obtain ⟨h1, h2, _⟩ := negW_facts hx
 unfold infS
 rw [h1, h2]
 cases sgn x <;> rfl
theorem unary_neg (x : Nat) (W : World) : (Op.unary UnOp.neg (.float .f64 x)).run Tryz.prog W = .ok (.float .f64 (negW x)) W := rfl
theorem math_IsNaN (x : Nat) (w : World) : Calls Tryz.prog 39 #[.float .f64 x] w fun e w' => e = .returned (.bool (nanB x)) ∧ w = w' := by
 go_in
 go_wp2
 go_ret
 exact ⟨ret_bool (neq_self x), rfl⟩
theorem math_IsInf_pos (x : Nat) (w : World) (h : nanB x = false) : Calls Tryz.prog 15 #[.float .f64 x, .int .i64 1] w fun e w' => e = .returned (.bool (infS false x)) ∧ w = w' := by
 have H := qd (inf_gt h)
 go_in
 go_wp2
 go_ret
 exact ⟨ret_bool H.out, rfl⟩
theorem math_IsInf_neg (x : Nat) (hx : x < 18446744073709551616) (w : World) (h : nanB x = false) : Calls Tryz.prog 15 #[.float .f64 x, .int .i64 (-1)] w fun e w' => e = .returned (.bool (infS true x)) ∧ w = w' := by
 have H := qd (show (FloatKind.f64.format.order (negW x) 9218868437227405311 == some .gt) = infS true x from by rw [inf_gt (by rw [nan_neg hx]; exact h), infS_neg hx])
 have hu := unary_neg x
 go_in
 go_wp2
 go_ret
 exact ⟨ret_bool H.out, rfl⟩
theorem wrap_sign (hx : x < 18446744073709551616) : decide (wrap64 (x : Int) < 0) = sgn x := by
 unfold wrap64
 unfold sgn
 by_cases h : x < 9223372036854775808
 ·have e : x / 9223372036854775808 % 2 = 0 := by omega
  rw [e]
  simp
  omega
 ·have e : x / 9223372036854775808 % 2 = 1 := by omega
  rw [e]
  simp
  omega
theorem math_NaN (w : World) : Calls Tryz.prog 35 #[] w fun e w' => e = .returned (.float .f64 9221120237041090561) ∧ w = w' := by
 have hx := @run_callFunc_extern Tryz.prog 63 _ Extern.MathFloatBits.float64frombits Tryz.func63 (by kernel_rfl) (by kernel_rfl) (by kernel_rfl) (by kernel_rfl)
 have hf := fun (n : Int) (W : World) => show (Extern.MathFloatBits.float64frombits #[.int .u64 n]).run Tryz.prog W = .ok (.float .f64 n.toNat) W from rfl
 go_in
 go_wp2
 go_ret
 exact ⟨rfl, rfl⟩
theorem math_Signbit (x : Nat) (hx : x < 18446744073709551616) (w : World) : Calls Tryz.prog 17 #[.float .f64 x] w fun e w' => e = .returned (.bool (sgn x)) ∧ w = w' := by
 have HW := qd (wrap_sign hx)
 have he := @run_callFunc_extern Tryz.prog 38 _ Extern.MathFloatBits.float64bits Tryz.func38 (by kernel_rfl) (by kernel_rfl) (by kernel_rfl) (by kernel_rfl)
 have hb := fun (b : Nat) (W : World) => show (Extern.MathFloatBits.float64bits #[.float .f64 b]).run Tryz.prog W = .ok (.int .u64 (b : Int)) W from rfl
 go_in
 go_wp2
 go_ret
 exact ⟨ret_bool HW.out, rfl⟩
theorem and_rung (hx : x < 18446744073709551616) : bits .andNot .u64 (x : Int) 9223372036854775808 = ((rung x : Nat) : Int) := by
 have := u64_andNot_nat x 9223372036854775808 hx (by omega)
 have e : x &&& (18446744073709551615 - 9223372036854775808) = rung x := by
  rw [show 18446744073709551615 - 9223372036854775808 = 2 ^ 63 - 1 by decide, Nat.and_two_pow_sub_one_eq_mod]
  rfl
 rw [e] at this
 exact this
theorem math_Abs (x : Nat) (hx : x < 18446744073709551616) (w : World) : Calls Tryz.prog 37 #[.float .f64 x] w fun e w' => e = .returned (.float .f64 (rung x)) ∧ w = w' := by
 have ha := and_rung hx
 have he := @run_callFunc_extern Tryz.prog 38 _ Extern.MathFloatBits.float64bits Tryz.func38 (by kernel_rfl) (by kernel_rfl) (by kernel_rfl) (by kernel_rfl)
 have hb := fun (b : Nat) (W : World) => show (Extern.MathFloatBits.float64bits #[.float .f64 b]).run Tryz.prog W = .ok (.int .u64 (b : Int)) W from rfl
 have hx' := @run_callFunc_extern Tryz.prog 63 _ Extern.MathFloatBits.float64frombits Tryz.func63 (by kernel_rfl) (by kernel_rfl) (by kernel_rfl) (by kernel_rfl)
 have hf := fun (n : Nat) (W : World) => show (Extern.MathFloatBits.float64frombits #[.int .u64 (n : Int)]).run Tryz.prog W = .ok (.float .f64 n) W from rfl
 go_in
 go_wp2
 go_ret
 exact ⟨rfl, rfl⟩
theorem shr52 (h : Low x) : bits .and .u64 ((x : Int) / 4503599627370496) 2047 = ((x / 4503599627370496 : Nat) : Int) := by
 unfold Low at h
 have e : x / 4503599627370496 &&& 2047 = x / 4503599627370496 := by
  rw [show (2047 : Nat) = 2 ^ 11 - 1 by decide, Nat.and_two_pow_sub_one_eq_mod]
  exact Nat.mod_eq_of_lt (by have e11 : (2 : Nat) ^ 11 = 2048 := (by decide); omega)
 have := u64_and_nat (x / 4503599627370496) 2047 (by omega) (by omega)
 rw [e] at this
 simpa using this
theorem math_Round_low (x : Nat) (hx : Low x) (w : World) : Calls Tryz.prog 41 #[.float .f64 x] w fun e w' => e = .returned (.float .f64 (roundW x)) ∧ w = w' := by
 have hs := shr52 hx
 have he := @run_callFunc_extern Tryz.prog 38 _ Extern.MathFloatBits.float64bits Tryz.func38 (by kernel_rfl) (by kernel_rfl) (by kernel_rfl) (by kernel_rfl)
 have hb := fun (b : Nat) (W : World) => show (Extern.MathFloatBits.float64bits #[.float .f64 b]).run Tryz.prog W = .ok (.int .u64 (b : Int)) W from rfl
 have hx' := @run_callFunc_extern Tryz.prog 63 _ Extern.MathFloatBits.float64frombits Tryz.func63 (by kernel_rfl) (by kernel_rfl) (by kernel_rfl) (by kernel_rfl)
 have hf := fun (n : Nat) (W : World) => show (Extern.MathFloatBits.float64frombits #[.int .u64 (n : Int)]).run Tryz.prog W = .ok (.float .f64 n) W from rfl
 obtain ⟨E, hE⟩ : ∃ E, E = x / 4503599627370496 := ⟨_, rfl⟩
 rw [← hE] at hs
 have HR := qd (show roundW x = if E < 1023 then (if E = 1022 then 4607182418800017408 else 0) else (x + 2 ^ (51 - (E - 1023))) / 2 ^ (52 - (E - 1023)) * 2 ^ (52 - (E - 1023)) from by unfold roundW; rw [← hE])
 have hE3 : E ≤ 1073 := by unfold Low at hx; omega
 have hx64 : x < 9223372036854775808 := by unfold Low at hx; omega
 by_cases h1 : E < 1023
 ·have h1' : (E : Int) < 1023 := by omega
  have ha : bits .and .u64 (x : Int) 9223372036854775808 = 0 := by
   have := u64_and_nat x 9223372036854775808 (by omega) (by omega)
   have e : x &&& 9223372036854775808 = 0 := by
    apply Nat.eq_of_testBit_eq
    intro j
    rw [Nat.testBit_and, Nat.zero_testBit, show (9223372036854775808 : Nat) = 2 ^ 63 by decide, Nat.testBit_two_pow]
    by_cases hj : 63 = j
    ·subst hj
     rw [Nat.testBit_lt_two_pow (by have e63 : (2 : Nat) ^ 63 = 9223372036854775808 := (by decide); omega)]
     rfl
    ·simp [hj]
   rw [e] at this
   exact this
  have hf0 := fun (W : World) => show (Extern.MathFloatBits.float64frombits #[.int .u64 0]).run Tryz.prog W = .ok (.float .f64 0) W from rfl
  have hf1 := fun (W : World) => show (Extern.MathFloatBits.float64frombits #[.int .u64 4607182418800017408]).run Tryz.prog W = .ok (.float .f64 4607182418800017408) W from rfl
  have hor : bits .or .u64 0 4607182418800017408 = 4607182418800017408 := by decide
  by_cases h2 : E = 1022
  ·have b2 : ((E : Int) == 1022) = true := by simp; omega
   have HV := qd (show roundW x = 4607182418800017408 from by rw [HR.out, if_pos h1, if_pos h2])
   clear hE hx hE3 hx64 h1 h2
   go_in
   go_wp2
   go_ret
   exact ⟨ret_val (by rw [HV.out]; rfl), rfl⟩
  ·have b2 : ((E : Int) == 1022) = false := by simp; omega
   have HV := qd (show roundW x = 0 from by rw [HR.out, if_pos h1, if_neg h2])
   clear hE hx hE3 hx64 h1 h2
   go_in
   go_wp2
   go_ret
   exact ⟨ret_val (by rw [HV.out]; rfl), rfl⟩
 ·have h1' : ¬ (E : Int) < 1023 := by omega
  have hE2 : (E : Int) < 1075 := by omega
  have hE1 : (1023 : Int) ≤ (E : Int) := by omega
  obtain ⟨d, hd⟩ : ∃ d, d = E - 1023 := ⟨_, rfl⟩
  have hd50 : d ≤ 50 := by omega
  obtain ⟨p, hp⟩ : ∃ p, p = 2 ^ (51 - d) := ⟨_, rfl⟩
  obtain ⟨q, hq⟩ : ∃ q, q = 2 ^ (52 - d) - 1 := ⟨_, rfl⟩
  have hsh := half_shift (d := d) (by omega)
  have hfr := frac_shift (d := d) (by omega)
  rw [← hp] at hsh
  rw [← hq] at hfr
  have hpl : p ≤ 2251799813685248 := by
   rw [hp]
   have : (2 : Nat) ^ (51 - d) ≤ 2 ^ 51 := Nat.pow_le_pow_right (by decide) (by omega)
   have e51 : (2 : Nat) ^ 51 = 2251799813685248 := by decide
   omega
  have hql : q < 4503599627370496 := by
   rw [hq]
   have h1 := Nat.two_pow_pos (52 - d)
   have : (2 : Nat) ^ (52 - d) ≤ 2 ^ 52 := Nat.pow_le_pow_right (by decide) (by omega)
   have e52 : (2 : Nat) ^ 52 = 4503599627370496 := by decide
   omega
  have HED := qd (show ((E : Int) - 1023) = (d : Int) from by omega)
  have hand : bits .andNot .u64 ((x : Int) + (p : Int)) (q : Int) = ((roundW x : Nat) : Int) := by
   have := u64_andNot_nat (x + p) q (by omega) (by omega)
   rw [hq, and_high (x + p) (52 - d) (by omega) (by omega), ← hq] at this
   rw [HR.out, if_neg h1, ← hd, ← hp, ← this]
   simp
  have hwr : IntKind.u64.wrap ((x : Int) + (p : Int)) = (x : Int) + (p : Int) := by
   unfold IntKind.wrap
   simp [IntKind.bits, IntKind.signed]
   omega
  have HSH := qd hsh
  have HFR := qd hfr
  have HAN := qd hand
  have HWR := qd hwr
  have hd0 : (d : Int) ≤ 64 := by omega
  clear hE hx hE3 hx64 h1 hd hd50 hp hq hsh hfr hpl hql hand hwr
  go_in
  go_upto_region 9 with fail
  rw [HED.out]
  have hsh := HSH.out
  have hwr := HWR.out
  clear hE1 hE2
  go_upto_region 10 with fail
  have hfr := HFR.out
  have hand := HAN.out
  go_wp2
  go_ret
  exact ⟨rfl, rfl⟩
end Go.Proofs.YtckmopailiamlaaGreatDoor

/-! The plain law of numbers: which texts are which numbers, of base 10 and of base 16. No program in sight. -/
namespace Go.Proofs.YtckmopailiamlaaGreatDoor.AmD
set_option maxRecDepth 100000
open Ieee Go.RowKit AmF Go
variable {n : Nat} {c : UInt8}
abbrev Bytes := List UInt8
def isDig (c : UInt8) : Bool := 48 ≤ c.toNat && c.toNat ≤ 57
def isHex (c : UInt8) : Bool := isDig c || (97 ≤ c.toNat && c.toNat ≤ 102)
def next10 (acc : Nat) (c : UInt8) : Nat := acc * 10 + (c.toNat - 48)
def val10 (acc : Nat) (l : Bytes) : Nat := l.foldl next10 acc
def dg (d : Nat) : UInt8 := UInt8.ofNat (48 + d)
def digits (n : Nat) : Bytes := if n < 10 then [dg n] else digits (n / 10) ++ [dg (n % 10)]
decreasing_by omega
theorem digits_small (n : Nat) (h : n < 10) : digits n = [dg n] := by rw [digits, if_pos h]
theorem digits_great (n : Nat) (h : ¬ n < 10) : digits n = digits (n / 10) ++ [dg (n % 10)] := by rw [digits, if_neg h]
theorem digits_ne (n : Nat) : digits n ≠ [] := by
 by_cases h : n < 10
 ·rw [digits_small n h]; simp
 ·rw [digits_great n h]; simp
def noZero : Bytes → Bool
 | c :: _ :: _ => c != 48
 | _ => true
theorem digits_length : ∀ (k n : Nat), n < 10 ^ (k + 1) → (digits n).length ≤ k + 1
 | 0, n, h => by rw [digits_small n (by simpa using h)]; simp
 | k + 1, n, h => by
  by_cases h1 : n < 10
  ·rw [digits_small n h1]; simp
  ·rw [digits_great n h1, List.length_append]
   have := digits_length k (n / 10) (by rw [Nat.div_lt_iff_lt_mul (by omega)]; rw [Nat.pow_succ] at h; exact h)
   simp; omega
def dec (l : Bytes) : Option Nat := if l ≠ [] ∧ (∀ b ∈ l, isDig b = true) ∧ noZero l = true ∧ val10 0 l < 18446744073709551616 then some (val10 0 l) else none
def hexV (c : UInt8) : Nat := if c.toNat ≤ 57 then c.toNat - 48 else c.toNat - 87
def next16 (acc : Nat) (c : UInt8) : Nat := acc * 16 + hexV c
def val16 (acc : Nat) (l : Bytes) : Nat := l.foldl next16 acc
def hex (l : Bytes) : Option Nat := if l ≠ [] ∧ (∀ b ∈ l, isHex b = true) ∧ l.length ≤ 16 then some (val16 0 l) else none
def d16 (c : UInt8) : Option Nat :=
 if isDig c then some (c.toNat - 48) else
  if 97 ≤ bits .or .u8 (c.toNat : Int) 32 ∧ bits .or .u8 (c.toNat : Int) 32 ≤ 102 then some ((bits .or .u8 (c.toNat : Int) 32).toNat - 87) else none
def parse16 (acc : Nat) : Bytes → Lib.NumEnd Nat
 | [] => .ok acc
 | c :: r => match d16 c with
  | none => Lib.NumEnd.syntax
  | some d => if 1152921504606846976 ≤ acc then .range else parse16 (acc * 16 + d) r
def numOf (l : Bytes) : Option Nat := if Lib.hasPrefix l [48, 120] = true then hex (Lib.trimPrefix l [48, 120]) else dec l
end Go.Proofs.YtckmopailiamlaaGreatDoor.AmD

/-! The plain law of a number's text with three figures behind the point. No program in sight. -/
namespace Go.Proofs.YtckmopailiamlaaGreatDoor.AmD
set_option maxRecDepth 100000
open Ieee Go.RowKit AmF Go
def pad4 (s : Bytes) : Bytes := if s.length ≤ 3 then List.replicate (4 - s.length) 48 ++ s else s
def tail3 (n : Nat) : Bytes := [dg (n / 100 % 10), dg (n / 10 % 10), dg (n % 10)]
theorem pad4_digits (n : Nat) : pad4 (digits n) = digits (n / 1000) ++ tail3 n := by
 unfold tail3
 by_cases h1 : n < 10
 ·rw [digits_small n h1, show n / 1000 = 0 by omega, digits_small 0 (by omega), show n / 100 % 10 = 0 by omega, show n / 10 % 10 = 0 by omega, show n % 10 = n by omega]
  rfl
 ·by_cases h2 : n < 100
  ·rw [digits_great n h1, digits_small (n / 10) (by omega), show n / 1000 = 0 by omega, digits_small 0 (by omega), show n / 100 % 10 = 0 by omega, show n / 10 % 10 = n / 10 by omega]
   rfl
  ·by_cases h3 : n < 1000
   ·rw [digits_great n h1, digits_great (n / 10) (by omega), digits_small (n / 10 / 10) (by omega), show n / 1000 = 0 by omega, digits_small 0 (by omega), show n / 100 % 10 = n / 10 / 10 by omega]
    rfl
   ·rw [digits_great n h1, digits_great (n / 10) (by omega), digits_great (n / 10 / 10) (by omega), show n / 10 / 10 / 10 = n / 1000 by omega, show n / 10 / 10 % 10 = n / 100 % 10 by omega]
    have hne := List.length_pos_iff.2 (digits_ne (n / 1000))
    unfold pad4
    rw [if_neg (by simp only [List.length_append, List.length_cons, List.length_nil]; omega)]
    simp
theorem tail3_length (n : Nat) : (tail3 n).length = 3 := rfl
def milli (n : Nat) : Bytes := digits (n / 1000) ++ 46 :: tail3 n
theorem milli_cut (n : Nat) : (pad4 (digits n)).take ((pad4 (digits n)).length - 3) ++ 46 :: (pad4 (digits n)).drop ((pad4 (digits n)).length - 3) = milli n := by
 rw [pad4_digits, List.length_append, tail3_length, Nat.add_sub_cancel, List.take_left, List.drop_left]
 rfl
end Go.Proofs.YtckmopailiamlaaGreatDoor.AmD

/-! The plain law of a float below 10 to the 12th, times 1000. No program in sight. -/
namespace Go.Proofs.YtckmopailiamlaaGreatDoor.AmF
set_option maxRecDepth 100000
open Ieee Go.RowKit AmF Go
def w12 : Nat := 4786511204640096256
def w1000 : Nat := 4652007308841189376
theorem read_1000 : double.read 4652007308841189376 = .number false 8796093022208000 (-43) := by
 rw [read_norm (w := 4652007308841189376) (E := 1032) (m := 4292493394837504) (by decide) (by decide) (by decide) (by decide)]
 rfl
theorem cut_le (n d k : Nat) (h0 : 0 < n) (h : n.log2 + 1 ≤ k + d) : Toward.even.cut false n d ≤ 2 ^ k := by
 unfold Toward.cut
 have hg : (1 : Nat) <<< (min d (n.log2 + 2)) = 2 ^ (min d (n.log2 + 2)) := by rw [Nat.shiftLeft_eq, Nat.one_mul]
 simp only [hg]
 have hlow : n / 2 ^ (min d (n.log2 + 2)) < 2 ^ k := by
  rw [Nat.div_lt_iff_lt_mul (Nat.two_pow_pos _), ← Nat.pow_add]
  refine Nat.lt_of_lt_of_le (pow_of_log h0).2 (Nat.pow_le_pow_right (by decide) ?_)
  omega
 have hm : ∀ b : Bool, b.toNat ≤ 1 := by intro b; cases b <;> decide
 have := hm (decide (2 ^ min d (n.log2 + 2) < 2 * (n % 2 ^ min d (n.log2 + 2))) || (2 ^ min d (n.log2 + 2) == 2 * (n % 2 ^ min d (n.log2 + 2)) && n / 2 ^ min d (n.log2 + 2) % 2 == 1))
 omega
theorem nearest_low (m : Nat) (p : Int) (h : m = 0 ∨ p + (m.log2 : Int) ≤ 49) : Low (double.nearest false m p) := by
 unfold Low
 unfold Format.nearest
 by_cases h0 : m = 0
 ·rw [if_pos h0]; decide
 ·rw [if_neg h0]
  have hp := h.resolve_left h0
  simp only [d_least, d_frac, d_binade, d_inf]
  generalize hL : max (p + (m.log2 : Int) - ((52 : Nat) : Int)) (-1074) = L
  have hL1 : L ≤ -3 := by omega
  have hL2 : -1074 ≤ L := by omega
  have hL3 : p + (m.log2 : Int) - 52 ≤ L := by omega
  have hk : Toward.even.cut false (m <<< (p - L).toNat) (L - p).toNat ≤ 2 ^ 53 := by
   rw [Nat.shiftLeft_eq]
   refine cut_le _ _ _ (Nat.mul_pos (by omega) (Nat.two_pow_pos _)) ?_
   rw [log_mul_pow _ _ (by omega)]
   omega
  have e53 : (2 : Nat) ^ 53 = 9007199254740992 := by decide
  rw [e53] at hk
  unfold Format.word
  simp only [Bool.false_eq_true, if_false]
  have hb : (L - -1074).toNat ≤ 1071 := by omega
  generalize (L - -1074).toNat = b at *
  generalize Toward.even.cut false (m <<< (p - L).toNat) (L - p).toNat = q at *
  have := Nat.min_le_left (b * 4503599627370496 + q) 9218868437227405312
  omega
theorem mul_low {a : Nat} (h : a < 4786511204640096256) : ∃ t, double.mul a 4652007308841189376 = some t ∧ Low t := by
 unfold Format.mul
 rw [read_1000]
 by_cases hs : a < 4503599627370496
 ·rw [read_small hs]
  refine ⟨_, rfl, ?_⟩
  refine nearest_low _ _ ?_
  by_cases h0 : a * 8796093022208000 = 0
  ·exact .inl h0
  ·right
   have := log_le (m := a * 8796093022208000) (k := 105) (by omega) (by
    have e : (2 : Nat) ^ (105 + 1) = 81129638414606681695789005144064 := by decide
    omega)
   omega
 ·have hE : a = (a / 4503599627370496) * 4503599627370496 + a % 4503599627370496 := by omega
  have hf : a % 4503599627370496 < 4503599627370496 := Nat.mod_lt _ (by decide)
  have hE1 : 1 ≤ a / 4503599627370496 := by omega
  have hE2 : a / 4503599627370496 ≤ 1062 := by omega
  rw [read_norm (w := a) (E := a / 4503599627370496) (m := a % 4503599627370496) hE1 (by omega) hf hE]
  refine ⟨_, rfl, ?_⟩
  refine nearest_low _ _ (.inr ?_)
  by_cases hm : a / 4503599627370496 ≤ 1061
  ·have := log_le (m := (4503599627370496 + a % 4503599627370496) * 8796093022208000) (k := 105) (by omega) (by
    have e : (2 : Nat) ^ (105 + 1) = 81129638414606681695789005144064 := by decide
    omega)
   omega
  ·have := log_le (m := (4503599627370496 + a % 4503599627370496) * 8796093022208000) (k := 105) (by omega) (by
    have e : (2 : Nat) ^ (105 + 1) = 81129638414606681695789005144064 := by decide
    omega)
   omega
end Go.Proofs.YtckmopailiamlaaGreatDoor.AmF
