/- The plain law of numbers: which texts are which numbers, of base 10 and of base 16. No program in sight. -/
import Derived.Lib.ParseIntB
import Derived.Lib.Strings
import Derived.Lib.ParseIntBCases
import Derived.Laws.Closers25b
namespace Go.Proofs.Ytoohcnjilmcimaa.AmD
open Go
abbrev Bytes := List UInt8

def isDig (c : UInt8) : Bool := 48 ≤ c.toNat && c.toNat ≤ 57
def isHex (c : UInt8) : Bool := isDig c || (97 ≤ c.toNat && c.toNat ≤ 102)
def next10 (acc : Nat) (c : UInt8) : Nat := acc * 10 + (c.toNat - 48)
def val10 (acc : Nat) (l : Bytes) : Nat := l.foldl next10 acc
theorem val10_nil (acc : Nat) : val10 acc [] = acc := rfl
theorem val10_cons (acc : Nat) (c : UInt8) (r : Bytes) : val10 acc (c :: r) = val10 (acc * 10 + (c.toNat - 48)) r := by rw [val10, List.foldl_cons, next10, val10]
def dg (d : Nat) : UInt8 := UInt8.ofNat (48 + d)
def digits (n : Nat) : Bytes := if n < 10 then [dg n] else digits (n / 10) ++ [dg (n % 10)]
decreasing_by omega

theorem digits_small (n : Nat) (h : n < 10) : digits n = [dg n] := by rw [digits, if_pos h]
theorem digits_great (n : Nat) (h : ¬ n < 10) : digits n = digits (n / 10) ++ [dg (n % 10)] := by rw [digits, if_neg h]

theorem val10_append (a : Bytes) : ∀ (acc : Nat) (b : Bytes), val10 acc (a ++ b) = val10 (val10 acc a) b := by
  induction a with
  | nil => intro acc b; rfl
  | cons c a ih => intro acc b; simp only [List.cons_append, val10_cons, ih]
theorem byte_of {d : Nat} (h : d < 10) : (dg d).toNat = 48 + d := by
  unfold dg; rw [UInt8.toNat_ofNat']; exact Nat.mod_eq_of_lt (by omega)
theorem val10_digits (n : Nat) : val10 0 (digits n) = n := by
  induction n using Nat.strongRecOn with
  | _ n ih =>
    by_cases h : n < 10
    · rw [digits_small n h]; simp only [val10_cons, val10_nil]; rw [byte_of h]; omega
    · rw [digits_great n h, val10_append, ih (n / 10) (by omega)]
      simp only [val10_cons, val10_nil]; rw [byte_of (Nat.mod_lt _ (by omega))]; omega
theorem digits_all (n : Nat) : ∀ b ∈ digits n, isDig b = true := by
  induction n using Nat.strongRecOn with
  | _ n ih =>
    intro b hb
    by_cases h : n < 10
    · rw [digits_small n h] at hb
      obtain rfl : b = _ := by simpa using hb
      unfold isDig; rw [byte_of h]; simp; omega
    · rw [digits_great n h] at hb
      rcases List.mem_append.1 hb with hb | hb
      · exact ih (n / 10) (by omega) b hb
      · obtain rfl : b = _ := by simpa using hb
        unfold isDig; rw [byte_of (Nat.mod_lt _ (by omega))]; simp; omega
theorem digits_ne (n : Nat) : digits n ≠ [] := by
  by_cases h : n < 10
  · rw [digits_small n h]; simp
  · rw [digits_great n h]; simp
/-- no nought ahead -/
def noZero : Bytes → Bool
  | c :: _ :: _ => c != 48
  | _ => true
theorem noZero_append (a : Bytes) (ha : a ≠ []) (h0 : a ≠ [48]) (c : UInt8) : noZero (a ++ [c]) = noZero a := by
  cases a with
  | nil => exact absurd rfl ha
  | cons x r =>
    cases r with
    | nil => simp [noZero]; intro e; exact h0 (by rw [e])
    | cons y r => simp [noZero]
theorem digits_noZero (n : Nat) : noZero (digits n) = true ∧ (digits n = [48] → n = 0) := by
  induction n using Nat.strongRecOn with
  | _ n ih =>
    by_cases h : n < 10
    · rw [digits_small n h]
      refine ⟨rfl, fun e => ?_⟩
      have := congrArg UInt8.toNat (List.singleton_inj.1 e)
      rw [byte_of h] at this
      have e48 : (48 : UInt8).toNat = 48 := rfl
      omega
    · obtain ⟨i1, i2⟩ := ih (n / 10) (by omega)
      rw [digits_great n h]
      refine ⟨?_, fun e => ?_⟩
      · rw [noZero_append _ (digits_ne _) (fun e => by have := i2 e; omega)]; exact i1
      · have := congrArg List.length e
        simp at this
        exact absurd this (digits_ne _)
theorem val10_ge : ∀ (l : Bytes) (acc : Nat), acc * 10 ^ l.length ≤ val10 acc l
  | [], acc => by simp [val10_nil]
  | c :: r, acc => by
    have := val10_ge r (acc * 10 + (c.toNat - 48))
    simp only [val10_cons, List.length_cons]
    refine Nat.le_trans ?_ this
    rw [Nat.pow_succ, ← Nat.mul_assoc, Nat.mul_right_comm]
    exact Nat.mul_le_mul_right _ (by omega)

/-- whoever has figures and no nought ahead is the figures of its number -/
theorem digits_val : ∀ (k : Nat) (l : Bytes), l.length = k → l ≠ [] → (∀ b ∈ l, isDig b = true) → noZero l = true → digits (val10 0 l) = l := by
  intro k
  induction k with
  | zero => intro l hl hne; exact absurd (List.length_eq_zero_iff.1 hl) hne
  | succ k ih =>
    intro l hl hne hall hz
    obtain ⟨a, c, rfl⟩ : ∃ a c, l = a ++ [c] := ⟨l.dropLast, l.getLast hne, (List.dropLast_concat_getLast hne).symm⟩
    have hc : isDig c = true := hall c (by simp)
    unfold isDig at hc
    simp only [Bool.and_eq_true, decide_eq_true_eq] at hc
    have hcb : ∀ d, d = c.toNat - 48 → dg d = c := by
      rintro d rfl
      unfold dg
      rw [show 48 + (c.toNat - 48) = c.toNat by omega]; simp
    by_cases ha : a = []
    · subst ha
      simp only [List.nil_append, val10_cons, val10_nil]
      rw [digits_small _ (by omega), hcb _ (by omega)]
    · have h0 : a ≠ [48] := by rintro rfl; simp [noZero] at hz
      rw [noZero_append a ha h0] at hz
      have hih := ih a (by simpa using hl) ha (fun b hb => hall b (by simp [hb])) hz
      have hpos : 0 < val10 0 a := by
        rcases Nat.eq_zero_or_pos (val10 0 a) with h | h
        · rw [h, digits_small 0 (by omega)] at hih
          exact absurd hih.symm h0
        · exact h
      rw [val10_append]
      simp only [val10_cons, val10_nil]
      rw [digits_great _ (by omega), show (val10 0 a * 10 + (c.toNat - 48)) / 10 = val10 0 a by omega, hih, hcb _ (by omega)]

theorem digits_length : ∀ (k n : Nat), n < 10 ^ (k + 1) → (digits n).length ≤ k + 1
  | 0, n, h => by rw [digits_small n (by simpa using h)]; simp
  | k + 1, n, h => by
    by_cases h1 : n < 10
    · rw [digits_small n h1]; simp
    · rw [digits_great n h1, List.length_append]
      have := digits_length k (n / 10) (by rw [Nat.div_lt_iff_lt_mul (by omega)]; rw [Nat.pow_succ] at h; exact h)
      simp; omega

/-! the library's parse of base 10 -/
theorem parse10_ok : ∀ (l : Bytes) (acc u : Nat), Lib.parseUint10 acc l = .ok u → (∀ b ∈ l, isDig b = true) ∧ u = val10 acc l
  | [], acc, u, h => by simp [Lib.parseUint10] at h; simp [val10_nil, h]
  | c :: r, acc, u, h => by
    rw [Lib.parseUint10] at h
    split at h
    · next hd =>
      split at h
      · cases h
      · split at h
        · cases h
        · obtain ⟨h1, h2⟩ := parse10_ok r _ u h
          refine ⟨fun b hb => ?_, by rw [h2]; rfl⟩
          rcases List.mem_cons.1 hb with e | hb
          · rw [e]; unfold isDig; simp; exact hd
          · exact h1 b hb
    · cases h
theorem parse10_of : ∀ (l : Bytes) (acc : Nat), (∀ b ∈ l, isDig b = true) → val10 acc l < 18446744073709551616 → Lib.parseUint10 acc l = .ok (val10 acc l)
  | [], acc, _, _ => rfl
  | c :: r, acc, hall, hlt => by
    have hc := hall c (by simp)
    unfold isDig at hc
    simp only [Bool.and_eq_true, decide_eq_true_eq] at hc
    have hge := val10_ge r (acc * 10 + (c.toNat - 48))
    have hp : 1 ≤ 10 ^ r.length := Nat.one_le_iff_ne_zero.2 (by simp)
    have h1 : acc * 10 + (c.toNat - 48) ≤ (acc * 10 + (c.toNat - 48)) * 10 ^ r.length := Nat.le_mul_of_pos_right _ hp
    simp only [val10_cons] at hlt ⊢
    rw [Lib.parseUint10, if_pos hc, if_neg (by omega), if_neg (by omega)]
    exact parse10_of r _ (fun b hb => hall b (by simp [hb])) hlt

/-- a word's number of base 10 -/
def dec (l : Bytes) : Option Nat := if l ≠ [] ∧ (∀ b ∈ l, isDig b = true) ∧ noZero l = true ∧ val10 0 l < 18446744073709551616 then some (val10 0 l) else none
theorem dec_some {l : Bytes} {n : Nat} (h : dec l = some n) : l ≠ [] ∧ (∀ b ∈ l, isDig b = true) ∧ noZero l = true ∧ n = val10 0 l ∧ n < 18446744073709551616 := by
  unfold dec at h
  split at h
  · next hh => obtain ⟨a, b, c, d⟩ := hh; injection h with h; exact ⟨a, b, c, h.symm, by omega⟩
  · cases h
theorem dec_none {l : Bytes} (h : dec l = none) : ¬ (l ≠ [] ∧ (∀ b ∈ l, isDig b = true) ∧ noZero l = true ∧ val10 0 l < 18446744073709551616) := by
  unfold dec at h
  split at h
  · cases h
  · next hh => exact hh
theorem parseB (l : Bytes) (hne : l ≠ []) : Lib.parseUintB 64 l = Lib.parseUint10 0 l := by
  rw [Lib.parseUintB, if_neg hne, show (2 : Nat) ^ 64 - 1 = 18446744073709551615 by decide, Lib.parseUintM_64]
/-- the figures of a number are its -/
theorem dec_digits (n : Nat) (h : n < 18446744073709551616) : dec (digits n) = some n := by
  unfold dec
  rw [if_pos ⟨digits_ne n, digits_all n, (digits_noZero n).1, by rw [val10_digits]; exact h⟩, val10_digits]
/-- the reference's: of what spells a number, wrapped to 64 bits, the figures again -/
theorem ref_dec (l : Bytes) (hall : ∀ b ∈ l, isDig b = true) (hne : l ≠ []) : (digits (val10 0 l % 18446744073709551616) = l ↔ ∃ n, dec l = some n) ∧ ∀ n, dec l = some n → val10 0 l % 18446744073709551616 = n := by
  refine ⟨⟨fun h => ?_, fun ⟨n, h⟩ => ?_⟩, fun n h => ?_⟩
  · have h1 := dec_digits (val10 0 l % 18446744073709551616) (Nat.mod_lt _ (by decide))
    rw [h] at h1
    exact ⟨_, h1⟩
  · obtain ⟨_, _, hz, hv, hlt⟩ := dec_some h
    rw [← hv, Nat.mod_eq_of_lt hlt, hv]
    exact digits_val _ l rfl hne hall hz
  · obtain ⟨_, _, hz, hv, hlt⟩ := dec_some h
    rw [← hv, Nat.mod_eq_of_lt hlt]
theorem dec_length {l : Bytes} {n : Nat} (h : dec l = some n) : l.length ≤ 20 := by
  obtain ⟨hne, hall, hz, hv, hlt⟩ := dec_some h
  rw [← digits_val _ l rfl hne hall hz, ← hv]
  exact digits_length 19 n (by omega)

/-! base 16 -/
def hexV (c : UInt8) : Nat := if c.toNat ≤ 57 then c.toNat - 48 else c.toNat - 87
def next16 (acc : Nat) (c : UInt8) : Nat := acc * 16 + hexV c
def val16 (acc : Nat) (l : Bytes) : Nat := l.foldl next16 acc
theorem val16_nil (acc : Nat) : val16 acc [] = acc := rfl
theorem val16_cons (acc : Nat) (c : UInt8) (r : Bytes) : val16 acc (c :: r) = val16 (acc * 16 + hexV c) r := by rw [val16, List.foldl_cons, next16, val16]
theorem val16_append (a : Bytes) : ∀ (acc : Nat) (b : Bytes), val16 acc (a ++ b) = val16 (val16 acc a) b := by
  induction a with
  | nil => intro acc b; rfl
  | cons c a ih => intro acc b; simp only [List.cons_append, val16_cons, ih]
/-- a word's number of base 16, behind the prefix -/
def hex (l : Bytes) : Option Nat := if l ≠ [] ∧ (∀ b ∈ l, isHex b = true) ∧ l.length ≤ 16 then some (val16 0 l) else none
theorem hex_some {l : Bytes} {n : Nat} (h : hex l = some n) : l ≠ [] ∧ (∀ b ∈ l, isHex b = true) ∧ l.length ≤ 16 ∧ n = val16 0 l := by
  unfold hex at h
  split at h
  · next hh => obtain ⟨a, b, c⟩ := hh; injection h with h; exact ⟨a, b, c, h.symm⟩
  · cases h
theorem hex_none {l : Bytes} (h : hex l = none) : ¬ (l ≠ [] ∧ (∀ b ∈ l, isHex b = true) ∧ l.length ≤ 16) := by
  unfold hex at h
  split at h
  · cases h
  · next hh => exact hh
theorem hexV_lt {c : UInt8} (h : isHex c = true) : hexV c < 16 := by
  unfold isHex isDig at h
  simp only [Bool.or_eq_true, Bool.and_eq_true, decide_eq_true_eq] at h
  unfold hexV
  split <;> omega
theorem val16_lt : ∀ (l : Bytes) (acc k : Nat), (∀ b ∈ l, isHex b = true) → acc < 16 ^ k → val16 acc l < 16 ^ (k + l.length)
  | [], acc, k, _, h => by simpa [val16_nil] using h
  | c :: r, acc, k, hall, h => by
    have := hexV_lt (hall c (by simp))
    simp only [val16_cons, List.length_cons]
    rw [show k + (r.length + 1) = (k + 1) + r.length by omega]
    refine val16_lt r _ (k + 1) (fun b hb => hall b (by simp [hb])) ?_
    rw [Nat.pow_succ]; omega
theorem hex_lt {l : Bytes} {n : Nat} (h : hex l = some n) : n < 18446744073709551616 := by
  obtain ⟨_, hall, hlen, rfl⟩ := hex_some h
  have h1 := val16_lt l 0 0 hall (by decide)
  refine Nat.lt_of_lt_of_le h1 ?_
  rw [Nat.zero_add]
  exact Nat.pow_le_pow_right (n := 16) (by decide) hlen
/-- the library's figure of base 16: a great letter too -/
def d16 (c : UInt8) : Option Nat :=
  if isDig c then some (c.toNat - 48) else
    if 97 ≤ bits .or .u8 (c.toNat : Int) 32 ∧ bits .or .u8 (c.toNat : Int) 32 ≤ 102 then some ((bits .or .u8 (c.toNat : Int) 32).toNat - 87) else none
def parse16 (acc : Nat) : Bytes → Lib.NumEnd Nat
  | [] => .ok acc
  | c :: r => match d16 c with
    | none => Lib.NumEnd.syntax
    | some d => if 1152921504606846976 ≤ acc then .range else parse16 (acc * 16 + d) r
theorem d16_hex {c : UInt8} (h : isHex c = true) : d16 c = some (hexV c) := by
  unfold d16
  by_cases hd : isDig c = true
  · rw [if_pos hd]
    unfold isDig at hd
    simp only [Bool.and_eq_true, decide_eq_true_eq] at hd
    rw [hexV, if_pos hd.2]
  · rw [if_neg hd]
    unfold isHex at h
    simp only [hd, Bool.false_or, Bool.and_eq_true, decide_eq_true_eq] at h
    have key : ∀ k : Nat, 97 ≤ k → k ≤ 102 → bits .or .u8 (k : Int) 32 = (k : Int) := by
      intro k h1 h2
      have : k = 97 ∨ k = 98 ∨ k = 99 ∨ k = 100 ∨ k = 101 ∨ k = 102 := by omega
      rcases this with rfl | rfl | rfl | rfl | rfl | rfl <;> decide
    rw [key _ h.1 h.2, if_pos (by omega), hexV, if_neg (by omega)]
    rfl
theorem parse16_of : ∀ (l : Bytes) (acc k : Nat), (∀ b ∈ l, isHex b = true) → acc < 16 ^ k → k + l.length ≤ 16 → parse16 acc l = .ok (val16 acc l)
  | [], acc, k, _, _, _ => rfl
  | c :: r, acc, k, hall, hk, hlen => by
    have hc := hall c (by simp)
    have := hexV_lt hc
    have h60 : acc < 1152921504606846976 := by
      refine Nat.lt_of_lt_of_le hk ?_
      have : (1152921504606846976 : Nat) = 16 ^ 15 := by decide
      rw [this]
      simp only [List.length_cons] at hlen
      exact Nat.pow_le_pow_right (n := 16) (by decide) (by omega)
    rw [parse16, d16_hex hc]
    simp only [val16_cons]
    rw [if_neg (by omega)]
    refine parse16_of r _ (k + 1) (fun b hb => hall b (by simp [hb])) (by rw [Nat.pow_succ]; omega) (by simp only [List.length_cons] at hlen; omega)
theorem parse16_hex {l : Bytes} {n : Nat} (h : hex l = some n) : parse16 0 l = .ok n := by
  obtain ⟨_, hall, hlen, rfl⟩ := hex_some h
  exact parse16_of l 0 0 hall (by decide) (by omega)
/-- a word's number, whatever its base -/
def numOf (l : Bytes) : Option Nat := if Lib.hasPrefix l [48, 120] = true then hex (Lib.trimPrefix l [48, 120]) else dec l
theorem dec_lt {l : Bytes} {n : Nat} (h : dec l = some n) : n < 18446744073709551616 := (dec_some h).2.2.2.2
theorem numOf_lt {l : Bytes} {n : Nat} (h : numOf l = some n) : n < 18446744073709551616 := by
  unfold numOf at h
  split at h
  · exact hex_lt h
  · exact dec_lt h
end Go.Proofs.Ytoohcnjilmcimaa.AmD
