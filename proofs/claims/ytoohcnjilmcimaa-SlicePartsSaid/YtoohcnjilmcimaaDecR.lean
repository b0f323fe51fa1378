/- amblerref30.Number by its contract: which words are which numbers, by the document. -/
import Derived.Test.YtoohcnjilmcimaaDecU
import Derived.BigQuiet
import Derived.Deep.QuietTactic
namespace Go.Proofs.Ytoohcnjilmcimaa
open Go.RowKit AmD

theorem results_tmp3' {fn : Func} {t u v : Tmp} (h : fn.results = #[.tmp t, .tmp u, .tmp v]) (tmps : Array Value) (P : Program) (w : World) :
    (results fn tmps).run P w = .ok (.tuple #[tmps.getD t undef, tmps.getD u undef, tmps.getD v undef]) w := by simp [results, h]

/-- the place of a byte among the figures of base 16, or -1 -/
def hexIx (c : UInt8) : Int := if isHex c then (hexV c : Int) else -1
/-- the same, among the first k -/
def hexIxTo (k : Nat) (c : UInt8) : Int := if isHex c ∧ hexV c < k then (hexV c : Int) else -1
theorem hexIxTo_zero (c : UInt8) : hexIxTo 0 c = -1 := by unfold hexIxTo; simp
theorem hexIxTo_all (c : UInt8) : hexIxTo 16 c = hexIx c := by
  unfold hexIxTo hexIx
  by_cases h : isHex c = true
  · have := hexV_lt h
    simp [h, this]
  · simp [h]
def tab16 : ByteArray := ⟨#[48, 49, 50, 51, 52, 53, 54, 55, 56, 57, 97, 98, 99, 100, 101, 102]⟩
theorem tab16_at (k : Nat) (h : k < 16) : ((tab16[k]'h).toNat : Int) = if k < 10 then 48 + (k : Int) else 87 + (k : Int) := by
  match k, h with
  | 0, _ => rfl | 1, _ => rfl | 2, _ => rfl | 3, _ => rfl | 4, _ => rfl | 5, _ => rfl | 6, _ => rfl | 7, _ => rfl
  | 8, _ => rfl | 9, _ => rfl | 10, _ => rfl | 11, _ => rfl | 12, _ => rfl | 13, _ => rfl | 14, _ => rfl | 15, _ => rfl
  | k + 16, h => exact absurd h (by omega)
theorem tab16_hit (k : Nat) (h : k < 16) (c : UInt8) : ((tab16[k]'h).toNat : Int) = (c.toNat : Int) ↔ isHex c = true ∧ hexV c = k := by
  rw [tab16_at k h]
  unfold isHex isDig hexV
  simp only [Bool.or_eq_true, Bool.and_eq_true, decide_eq_true_eq]
  constructor
  · intro e
    split at e <;> split <;> omega
  · rintro ⟨h1, h2⟩
    split at h2 <;> split <;> omega
theorem hexIxTo_hit {k : Nat} {c : UInt8} (h : isHex c = true ∧ hexV c = k) : hexIxTo (k + 1) c = (k : Int) := by
  unfold hexIxTo
  rw [if_pos ⟨h.1, by omega⟩, h.2]
theorem hexIxTo_miss {k : Nat} {c : UInt8} (h : ¬ (isHex c = true ∧ hexV c = k)) : hexIxTo (k + 1) c = hexIxTo k c := by
  unfold hexIxTo
  by_cases h1 : isHex c = true
  · have : hexV c ≠ k := fun e => h ⟨h1, e⟩
    by_cases h2 : hexV c < k
    · rw [if_pos ⟨h1, by omega⟩, if_pos ⟨h1, h2⟩]
    · rw [if_neg (by omega), if_neg (by omega)]
  · rw [if_neg (fun e => h1 e.1), if_neg (fun e => h1 e.1)]

/-- what the reference answers -/
def Ref16Post (w : World) (r : Option Nat) (e : Ending) (w' : World) : Prop :=
  match r with
  | some n => e = .returned (.tuple #[.int .u64 n, .bool false, .bool true]) ∧ Below w.heap.size w w'
  | none => e = .returned (.tuple #[.int .u64 0, .bool false, .bool false]) ∧ Below w.heap.size w w'
def Ref10Post (w : World) (r : Option Nat) (e : Ending) (w' : World) : Prop :=
  match r with
  | some n => e = .returned (.tuple #[.int .u64 n, .bool true, .bool true]) ∧ Below w.heap.size w w'
  | none => ∃ m, e = .returned (.tuple #[.int .u64 m, .bool true, .bool false]) ∧ Below w.heap.size w w'

/-- where the loop of base 16 stands: the figures so far -/
structure At16 (l : List UInt8) (k n : Nat) : Prop where
  all : ∀ b ∈ l.take k, isHex b = true
  val : n = val16 0 (l.take k)
  len : k = 0 ∨ l.length ≤ 16
theorem At16.next {l : List UInt8} {k n : Nat} (h : At16 l k n) (hk : k < l.length) (hc : isHex l[k] = true) (hl : l.length ≤ 16) : At16 l (k + 1) (n * 16 + hexV l[k]) := by
  refine ⟨fun b hb => ?_, ?_, .inr hl⟩
  · rw [List.take_succ_eq_append_getElem hk] at hb
    rcases List.mem_append.1 hb with hb | hb
    · exact h.all b hb
    · obtain rfl : b = l[k] := by simpa using hb
      exact hc
  · rw [List.take_succ_eq_append_getElem hk, val16_append, ← h.val]
    rw [val16_cons, val16_nil]
theorem At16.lt {l : List UInt8} {k n : Nat} (h : At16 l k n) : n < 16 ^ k := by
  have := val16_lt (l.take k) 0 0 h.all (by decide)
  rw [h.val]
  refine Nat.lt_of_lt_of_le this (Nat.pow_le_pow_right (by decide) ?_)
  simp; omega
theorem At16.fin {l : List UInt8} {n : Nat} (h : At16 l l.length n) (hne : l ≠ []) : hex l = some n := by
  have hl : l.length ≤ 16 := by
    rcases h.len with q | q
    · exact absurd (List.length_eq_zero_iff.1 q) hne
    · exact q
  unfold hex
  rw [if_pos ⟨hne, by have := h.all; rwa [List.take_length] at this, hl⟩, h.val, List.take_length]

/-- where the loop of base 10 stands -/
structure At10 (l : List UInt8) (k n : Nat) : Prop where
  all : ∀ b ∈ l.take k, isDig b = true
  val : n = val10 0 (l.take k) % 18446744073709551616
theorem At10.next {l : List UInt8} {k n : Nat} (h : At10 l k n) (hk : k < l.length) (hc : isDig l[k] = true) : At10 l (k + 1) ((n * 10 + (l[k].toNat - 48)) % 18446744073709551616) := by
  refine ⟨fun b hb => ?_, ?_⟩
  · rw [List.take_succ_eq_append_getElem hk] at hb
    rcases List.mem_append.1 hb with hb | hb
    · exact h.all b hb
    · obtain rfl : b = l[k] := by simpa using hb
      exact hc
  · rw [List.take_succ_eq_append_getElem hk, val10_append, val10_cons, val10_nil, h.val]
    omega

theorem ext2 (s : ByteArray) : (s.extract 0 2).data.toList = s.data.toList.take 2 := by
  simp

theorem At16.lt60 {l : List UInt8} {k n : Nat} (h : At16 l k n) (hk : k ≤ 15) : n < 1152921504606846976 := by
  refine Nat.lt_of_lt_of_le h.lt ?_
  have : (1152921504606846976 : Nat) = 16 ^ 15 := by decide
  rw [this]
  exact Nat.pow_le_pow_right (by decide) hk
theorem hex_bad {l : List UInt8} {k : Nat} (hk : k < l.length) (h : isHex l[k] = false) : hex l = none := by
  unfold hex
  rw [if_neg]
  rintro ⟨_, h1, _⟩
  have := h1 _ (List.getElem_mem hk)
  rw [h] at this; cases this
theorem hex_long {l : List UInt8} (h : 16 < l.length) : hex l = none := by
  unfold hex
  rw [if_neg]
  rintro ⟨_, _, h1⟩
  omega
theorem drop2_at (s : ByteArray) (m : Nat) (h2 : 2 ≤ m) (h : m < s.size) (h' : m - 2 < (s.data.toList.drop 2).length) : (s.data.toList.drop 2)[m - 2]'h' = s[m] := by
  rw [List.getElem_drop]
  have e : 2 + (m - 2) = m := by omega
  simp only [e]
  rfl

theorem dec_bad {l : List UInt8} {k : Nat} (hk : k < l.length) (h : isDig l[k] = false) : dec l = none := by
  unfold dec
  rw [if_neg]
  rintro ⟨_, h1, _⟩
  have := h1 _ (List.getElem_mem hk)
  rw [h] at this; cases this
theorem dec_long {l : List UInt8} (h : 20 < l.length) : dec l = none := by
  cases h1 : dec l with
  | none => rfl
  | some n => have := dec_length h1; omega
theorem At10.fin {l : List UInt8} {n : Nat} (h : At10 l l.length n) (hne : l ≠ []) : n < 18446744073709551616 ∧ (∀ m, dec l = some m → digits n = l ∧ n = m) ∧ (dec l = none → digits n ≠ l) := by
  have hv := h.val
  have ha := h.all
  rw [List.take_length] at hv ha
  obtain ⟨h1, h2⟩ := ref_dec l ha hne
  rw [← hv] at h1 h2
  refine ⟨by rw [hv]; exact Nat.mod_lt _ (by decide), fun m hm => ⟨h1.2 ⟨m, hm⟩, h2 m hm⟩, fun hn e => ?_⟩
  obtain ⟨m, hm⟩ := h1.1 e
  rw [hn] at hm; cases hm
theorem says_eq {s b : ByteArray} {l : List UInt8} (hb : Says l b) (h : l = s.data.toList) : b = s := by
  unfold Says at hb
  rw [h] at hb
  apply ByteArray.ext
  exact Array.toList_inj.1 hb

theorem fin10 {s b : ByteArray} {n : Nat} {w w1 : World} (h : n < 18446744073709551616 ∧ (∀ m, dec s.data.toList = some m → digits n = s.data.toList ∧ n = m) ∧ (dec s.data.toList = none → digits n ≠ s.data.toList))
    (hb : Says (digits n) b) (hb1 : Below w.heap.size w w1) : Ref10Post w (dec s.data.toList) (.returned (.tuple #[.int .u64 n, .bool true, .bool (b.toList == s.toList)])) w1 := by
  cases hd : dec s.data.toList with
  | some m =>
    obtain ⟨e1, e2⟩ := h.2.1 m hd
    have e3 : b = s := says_eq hb e1
    subst e3; subst e2
    exact ⟨by simp, hb1⟩
  | none =>
    have e : (b.toList == s.toList) = false := by
      rw [beq_eq_false_iff_ne, ByteArray.toList_eq, ByteArray.toList_eq]
      unfold Says at hb
      rw [hb]
      exact h.2.2 hd
    rw [e]
    exact ⟨n, rfl, hb1⟩

end Go.Proofs.Ytoohcnjilmcimaa
