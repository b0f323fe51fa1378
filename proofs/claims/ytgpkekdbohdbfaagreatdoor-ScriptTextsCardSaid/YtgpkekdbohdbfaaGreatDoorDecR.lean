/- amblerref30.Number by its contract: which words are which numbers, by the document. -/
import Derived.Test.YtgpkekdbohdbfaaGreatDoorDecU
import Derived.BigQuiet
import Derived.Deep.QuietTactic
namespace Go.Proofs.YtgpkekdbohdbfaaGreatDoor
open Go.RowKit AmD

theorem results_tmp3' {fn : Func} {t u v : Tmp} (h : fn.results = #[.tmp t, .tmp u, .tmp v]) (tmps : Array Value) (P : Program) (w : World) :
    (results fn tmps).run P w = .ok (.tuple #[tmps.getD t undef, tmps.getD u undef, tmps.getD v undef]) w := by simp [results, h]

/-- the place of a byte among the figures of base 16, or -1 -/
def hexIx (c : UInt8) : Int := if isHex c then (hexV c : Int) else -1
/-- the same, among the first k -/
def hexIxTo (k : Nat) (c : UInt8) : Int := if isHex c ∧ hexV c < k then (hexV c : Int) else -1
theorem hexIxTo_zero (c : UInt8) : hexIxTo 0 c = -1 := by unfold hexIxTo; simp
theorem hexIxTo_all (c : UInt8) : hexIxTo 16 c = hexIx c := by
  unfold hexIxTo hexIx
  by_cases h : isHex c = true
  · have := hexV_lt h
    simp [h, this]
  · simp [h]
def tab16 : ByteArray := ⟨#[48, 49, 50, 51, 52, 53, 54, 55, 56, 57, 97, 98, 99, 100, 101, 102]⟩
theorem tab16_at (k : Nat) (h : k < 16) : ((tab16[k]'h).toNat : Int) = if k < 10 then 48 + (k : Int) else 87 + (k : Int) := by
  match k, h with
  | 0, _ => rfl | 1, _ => rfl | 2, _ => rfl | 3, _ => rfl | 4, _ => rfl | 5, _ => rfl | 6, _ => rfl | 7, _ => rfl
  | 8, _ => rfl | 9, _ => rfl | 10, _ => rfl | 11, _ => rfl | 12, _ => rfl | 13, _ => rfl | 14, _ => rfl | 15, _ => rfl
  | k + 16, h => exact absurd h (by omega)
theorem tab16_hit (k : Nat) (h : k < 16) (c : UInt8) : ((tab16[k]'h).toNat : Int) = (c.toNat : Int) ↔ isHex c = true ∧ hexV c = k := by
  rw [tab16_at k h]
  unfold isHex isDig hexV
  simp only [Bool.or_eq_true, Bool.and_eq_true, decide_eq_true_eq]
  constructor
  · intro e
    split at e <;> split <;> omega
  · rintro ⟨h1, h2⟩
    split at h2 <;> split <;> omega
theorem hexIxTo_hit {k : Nat} {c : UInt8} (h : isHex c = true ∧ hexV c = k) : hexIxTo (k + 1) c = (k : Int) := by
  unfold hexIxTo
  rw [if_pos ⟨h.1, by omega⟩, h.2]
theorem hexIxTo_miss {k : Nat} {c : UInt8} (h : ¬ (isHex c = true ∧ hexV c = k)) : hexIxTo (k + 1) c = hexIxTo k c := by
  unfold hexIxTo
  by_cases h1 : isHex c = true
  · have : hexV c ≠ k := fun e => h ⟨h1, e⟩
    by_cases h2 : hexV c < k
    · rw [if_pos ⟨h1, by omega⟩, if_pos ⟨h1, h2⟩]
    · rw [if_neg (by omega), if_neg (by omega)]
  · rw [if_neg (fun e => h1 e.1), if_neg (fun e => h1 e.1)]

/-- what the reference answers -/
def Ref16Post (w : World) (r : Option Nat) (e : Ending) (w' : World) : Prop :=
  match r with
  | some n => e = .returned (.tuple #[.int .u64 n, .bool false, .bool true]) ∧ Below w.heap.size w w'
  | none => e = .returned (.tuple #[.int .u64 0, .bool false, .bool false]) ∧ Below w.heap.size w w'
def Ref10Post (w : World) (r : Option Nat) (e : Ending) (w' : World) : Prop :=
  match r with
  | some n => e = .returned (.tuple #[.int .u64 n, .bool true, .bool true]) ∧ Below w.heap.size w w'
  | none => ∃ m, e = .returned (.tuple #[.int .u64 m, .bool true, .bool false]) ∧ Below w.heap.size w w'

/-- where the loop of base 16 stands: the figures so far -/
structure At16 (l : List UInt8) (k n : Nat) : Prop where
  all : ∀ b ∈ l.take k, isHex b = true
  val : n = val16 0 (l.take k)
  len : k = 0 ∨ l.length ≤ 16
theorem At16.next {l : List UInt8} {k n : Nat} (h : At16 l k n) (hk : k < l.length) (hc : isHex l[k] = true) (hl : l.length ≤ 16) : At16 l (k + 1) (n * 16 + hexV l[k]) := by
  refine ⟨fun b hb => ?_, ?_, .inr hl⟩
  · rw [List.take_succ_eq_append_getElem hk] at hb
    rcases List.mem_append.1 hb with hb | hb
    · exact h.all b hb
    · obtain rfl : b = l[k] := by simpa using hb
      exact hc
  · rw [List.take_succ_eq_append_getElem hk, val16_append, ← h.val]
    rw [val16_cons, val16_nil]
theorem At16.lt {l : List UInt8} {k n : Nat} (h : At16 l k n) : n < 16 ^ k := by
  have := val16_lt (l.take k) 0 0 h.all (by decide)
  rw [h.val]
  refine Nat.lt_of_lt_of_le this (Nat.pow_le_pow_right (by decide) ?_)
  simp; omega
theorem At16.fin {l : List UInt8} {n : Nat} (h : At16 l l.length n) (hne : l ≠ []) : hex l = some n := by
  have hl : l.length ≤ 16 := by
    rcases h.len with q | q
    · exact absurd (List.length_eq_zero_iff.1 q) hne
    · exact q
  unfold hex
  rw [if_pos ⟨hne, by have := h.all; rwa [List.take_length] at this, hl⟩, h.val, List.take_length]

/-- where the loop of base 10 stands -/
structure At10 (l : List UInt8) (k n : Nat) : Prop where
  all : ∀ b ∈ l.take k, isDig b = true
  val : n = val10 0 (l.take k) % 18446744073709551616
theorem At10.next {l : List UInt8} {k n : Nat} (h : At10 l k n) (hk : k < l.length) (hc : isDig l[k] = true) : At10 l (k + 1) ((n * 10 + (l[k].toNat - 48)) % 18446744073709551616) := by
  refine ⟨fun b hb => ?_, ?_⟩
  · rw [List.take_succ_eq_append_getElem hk] at hb
    rcases List.mem_append.1 hb with hb | hb
    · exact h.all b hb
    · obtain rfl : b = l[k] := by simpa using hb
      exact hc
  · rw [List.take_succ_eq_append_getElem hk, val10_append, val10_cons, val10_nil, h.val]
    omega

theorem ext2 (s : ByteArray) : (s.extract 0 2).data.toList = s.data.toList.take 2 := by
  simp

theorem At16.lt60 {l : List UInt8} {k n : Nat} (h : At16 l k n) (hk : k ≤ 15) : n < 1152921504606846976 := by
  refine Nat.lt_of_lt_of_le h.lt ?_
  have : (1152921504606846976 : Nat) = 16 ^ 15 := by decide
  rw [this]
  exact Nat.pow_le_pow_right (by decide) hk
theorem hex_bad {l : List UInt8} {k : Nat} (hk : k < l.length) (h : isHex l[k] = false) : hex l = none := by
  unfold hex
  rw [if_neg]
  rintro ⟨_, h1, _⟩
  have := h1 _ (List.getElem_mem hk)
  rw [h] at this; cases this
theorem hex_long {l : List UInt8} (h : 16 < l.length) : hex l = none := by
  unfold hex
  rw [if_neg]
  rintro ⟨_, _, h1⟩
  omega
theorem drop2_at (s : ByteArray) (m : Nat) (h2 : 2 ≤ m) (h : m < s.size) (h' : m - 2 < (s.data.toList.drop 2).length) : (s.data.toList.drop 2)[m - 2]'h' = s[m] := by
  rw [List.getElem_drop]
  have e : 2 + (m - 2) = m := by omega
  simp only [e]
  rfl

set_option maxHeartbeats 4000000 in
set_option maxRecDepth 100000 in
theorem ref_num16 (s : ByteArray) (w : World) (hs : s.size ≤ 70000) (h2 : 2 < s.size) (hpre : s.extract 0 2 = ⟨#[48, 120]⟩) :
    Calls Tryz.prog 30 #[.string s] w (Ref16Post w (hex (s.data.toList.drop 2))) := by
  have b1 : (2 : Int) < (s.size : Int) := by omega
  have hll : (s.data.toList.drop 2).length = s.size - 2 := by simp
  have hdr0 := fun m h2 h h' => drop2_at s m h2 h h'
  generalize s.data.toList.drop 2 = l at hll hdr0 ⊢
  have hdr := Lib.hid hdr0
  clear hdr0
  have hne : l ≠ [] := fun e => by rw [e] at hll; simp at hll; omega
  go_enter Tryz.func30, Tryz.ntmps30
  go_wp2
  go_loopw [5, 6, 7, 8] (fun vn vi _ _ wr => ∃ (m n : Nat), vn = .int .u64 n ∧ vi = .int .i64 m ∧ 2 ≤ m ∧ m ≤ s.size ∧ At16 l (m - 2) n ∧ Below w.heap.size w wr) (fun _ vi _ _ _ => s.size - (intOf vi).toNat)
  case atStart => exact ⟨2, 0, rfl, rfl, by omega, by omega, ⟨by simp, by simp [val16_nil], .inl rfl⟩, Below.refl _ _⟩
  case round =>
    obtain ⟨m, n, rfl, rfl, hm2, hk, hat, hB⟩ := hrel
    by_cases hlt : m < s.size
    · have b2 : (m : Int) < (s.size : Int) := by omega
      have hml : m - 2 < l.length := by omega
      have hget := hdr.out m hm2 hlt hml
      go_wp2
      go_loopw [7, 8] (fun vd vk wq => ∃ j : Nat, j ≤ 16 ∧ vk = .int .i64 j ∧ vd = .int .i64 (hexIxTo j s[m]) ∧ Below w.heap.size w wq) (fun _ vk _ => 16 - (intOf vk).toNat)
      case atStart => exact ⟨0, by omega, rfl, by rw [hexIxTo_zero], hB⟩
      case round =>
        obtain ⟨j, hj, rfl, rfl, hBq⟩ := hrel
        clear hB
        by_cases hj16 : j < 16
        · have b3 : (j : Int) < 16 := by omega
          have b4 : (j : Int) < ((⟨#[48, 49, 50, 51, 52, 53, 54, 55, 56, 57, 97, 98, 99, 100, 101, 102]⟩ : ByteArray).size : Int) := by show (j : Int) < 16; omega
          by_cases hh : isHex s[m] = true ∧ hexV s[m] = j
          · have hT : ∀ h, ((((⟨#[48, 49, 50, 51, 52, 53, 54, 55, 56, 57, 97, 98, 99, 100, 101, 102]⟩ : ByteArray)[j]'h).toNat : Int) == ((s[m]).toNat : Int)) = true := fun h => by
              have := (tab16_hit j hj16 s[m]).2 hh
              exact beq_iff_eq.2 this
            have HX := Lib.hid (hexIxTo_hit hh)
            clear hh hget
            go_wp2
            go_quiet (fail)
            go_wp2
            go_roundw
            case rel => exact ⟨j + 1, by omega, by go_num, by rw [HX.out], below_drewN hBq _⟩
            case measure => simp [intOf]; omega
          · have hT : ∀ h, ((((⟨#[48, 49, 50, 51, 52, 53, 54, 55, 56, 57, 97, 98, 99, 100, 101, 102]⟩ : ByteArray)[j]'h).toNat : Int) == ((s[m]).toNat : Int)) = false := fun h => by
              have := mt (tab16_hit j hj16 s[m]).1 hh
              exact beq_eq_false_iff_ne.2 this
            have HX := Lib.hid (hexIxTo_miss hh)
            clear hh hget
            go_wp2
            go_quiet (fail)
            go_wp2
            go_roundw
            case rel => exact ⟨j + 1, by omega, by go_num, by rw [HX.out], below_drewN hBq _⟩
            case measure => simp [intOf]; omega
        · obtain rfl : j = 16 := by omega
          have b3 : ¬ ((16 : Nat) : Int) < 16 := by omega
          rw [hexIxTo_all]
          by_cases hh : isHex s[m] = true
          · have hx : hexIx s[m] = (hexV s[m] : Int) := by unfold hexIx; rw [if_pos hh]
            rw [hx]
            have b5 : ¬ ((hexV s[m] : Int) < 0) := by omega
            have hv := hexV_lt hh
            by_cases h18 : 18 < s.size
            · have b6 : (18 : Int) < (s.size : Int) := by omega
              have HR := Lib.hid (hex_long (l := l) (by omega))
              clear hx hh hat hget
              generalize hexV s[m] = d at b5 hv
              go_wp2
              refine bodyPost_ret (results_tmp3' rfl _ _ _) rfl ?_
              rw [HR.out]
              exact ⟨rfl, hBq⟩
            · have b6 : ¬ (18 : Int) < (s.size : Int) := by omega
              have HN := Lib.hid (hat.next hml (by rw [hget]; exact hh) (by omega))
              have hn60 := hat.lt60 (by omega)
              rw [hget] at HN
              clear hx hh hat hget
              generalize hexV s[m] = d at b5 hv HN
              go_wp2
              go_roundw
              case rel => exact ⟨m + 1, n * 16 + d, by go_num, by go_num, by omega, by omega, by rw [show m + 1 - 2 = m - 2 + 1 by omega]; exact HN.out, hBq⟩
              case measure => simp [intOf]; omega
          · have hh' : isHex s[m] = false := by simpa using hh
            have hx : hexIx s[m] = -1 := by unfold hexIx; rw [if_neg hh]
            rw [hx]
            have HR := Lib.hid (hex_bad hml (by rw [hget]; exact hh'))
            clear hx hh hat hget hh'
            go_wp2
            refine bodyPost_ret (results_tmp3' rfl _ _ _) rfl ?_
            rw [HR.out]
            exact ⟨rfl, hBq⟩
    · obtain rfl : m = s.size := by omega
      have HR := Lib.hid (show hex l = some n from by
        rw [← hll] at hat
        exact hat.fin hne)
      clear hat
      go_wp2
      refine bodyPost_ret (results_tmp3' rfl _ _ _) rfl ?_
      rw [HR.out]
      exact ⟨rfl, hB⟩

theorem dec_bad {l : List UInt8} {k : Nat} (hk : k < l.length) (h : isDig l[k] = false) : dec l = none := by
  unfold dec
  rw [if_neg]
  rintro ⟨_, h1, _⟩
  have := h1 _ (List.getElem_mem hk)
  rw [h] at this; cases this
theorem dec_long {l : List UInt8} (h : 20 < l.length) : dec l = none := by
  cases h1 : dec l with
  | none => rfl
  | some n => have := dec_length h1; omega
theorem At10.fin {l : List UInt8} {n : Nat} (h : At10 l l.length n) (hne : l ≠ []) : n < 18446744073709551616 ∧ (∀ m, dec l = some m → digits n = l ∧ n = m) ∧ (dec l = none → digits n ≠ l) := by
  have hv := h.val
  have ha := h.all
  rw [List.take_length] at hv ha
  obtain ⟨h1, h2⟩ := ref_dec l ha hne
  rw [← hv] at h1 h2
  refine ⟨by rw [hv]; exact Nat.mod_lt _ (by decide), fun m hm => ⟨h1.2 ⟨m, hm⟩, h2 m hm⟩, fun hn e => ?_⟩
  obtain ⟨m, hm⟩ := h1.1 e
  rw [hn] at hm; cases hm
theorem says_eq {s b : ByteArray} {l : List UInt8} (hb : Says l b) (h : l = s.data.toList) : b = s := by
  unfold Says at hb
  rw [h] at hb
  apply ByteArray.ext
  exact Array.toList_inj.1 hb

theorem fin10 {s b : ByteArray} {n : Nat} {w w1 : World} (h : n < 18446744073709551616 ∧ (∀ m, dec s.data.toList = some m → digits n = s.data.toList ∧ n = m) ∧ (dec s.data.toList = none → digits n ≠ s.data.toList))
    (hb : Says (digits n) b) (hb1 : Below w.heap.size w w1) : Ref10Post w (dec s.data.toList) (.returned (.tuple #[.int .u64 n, .bool true, .bool (b.toList == s.toList)])) w1 := by
  cases hd : dec s.data.toList with
  | some m =>
    obtain ⟨e1, e2⟩ := h.2.1 m hd
    have e3 : b = s := says_eq hb e1
    subst e3; subst e2
    exact ⟨by simp, hb1⟩
  | none =>
    have e : (b.toList == s.toList) = false := by
      rw [beq_eq_false_iff_ne, ByteArray.toList_eq, ByteArray.toList_eq]
      unfold Says at hb
      rw [hb]
      exact h.2.2 hd
    rw [e]
    exact ⟨n, rfl, hb1⟩

set_option maxHeartbeats 4000000 in
set_option maxRecDepth 100000 in
theorem ref_num10 (s : ByteArray) (w : World) (hs : s.size ≤ 70000) (hpre : ¬ 2 < s.size ∨ s.extract 0 2 ≠ ⟨#[48, 120]⟩) :
    Calls Tryz.prog 30 #[.string s] w (Ref10Post w (dec s.data.toList)) := by
  have hlen : s.data.toList.length = s.size := by simp
  by_cases h2 : 2 < s.size
  · have b1 : (2 : Int) < (s.size : Int) := by omega
    have hp : s.extract 0 2 ≠ ⟨#[48, 120]⟩ := hpre.resolve_left (by omega)
    have hp2 : ((s.extract 0 2).toList == [48, 120]) = false := by
      rw [beq_eq_false_iff_ne, ByteArray.toList_eq]
      exact fun e => hp (ByteArray.ext (Array.toList_inj.1 e))
    clear hpre hp
    go_enter Tryz.func30, Tryz.ntmps30
    go_wp2
    go_loop [9, 10] (fun vn vi => ∃ (k n : Nat), vn = .int .u64 n ∧ vi = .int .i64 k ∧ k ≤ s.size ∧ At10 s.data.toList k n ∧ n < 18446744073709551616) (fun _ vi => s.size - (intOf vi).toNat)
    case atStart => exact ⟨0, 0, rfl, rfl, by omega, ⟨by simp, by simp [val10_nil]⟩, by omega⟩
    case round =>
      obtain ⟨k, n, rfl, rfl, hk, hat, hn⟩ := hrel
      by_cases hlt : k < s.size
      · have b2 : (k : Int) < (s.size : Int) := by omega
        have hget : s.data.toList[k]'(by omega) = s[k] := rfl
        by_cases hd : isDig s[k] = true
        · have hd' : (48 : Int) ≤ ((s[k]).toNat : Int) ∧ ((s[k]).toNat : Int) ≤ 57 := by
            unfold isDig at hd; simp at hd; omega
          obtain ⟨b3, b4⟩ := hd'
          by_cases h20 : 20 < k
          · have b5 : (20 : Int) < (k : Int) := by omega
            have HR := Lib.hid (dec_long (l := s.data.toList) (by omega))
            clear hat hd hget
            go_wp2
            refine bodyPost_ret (results_tmp3' rfl _ _ _) rfl ?_
            rw [HR.out]
            exact ⟨_, rfl, Below.refl _ _⟩
          · have b5 : ¬ (20 : Int) < (k : Int) := by omega
            have HN := Lib.hid (hat.next (by omega) (by rw [hget]; exact hd))
            rw [hget] at HN
            clear hat hd hget
            go_wp2
            go_round
            case rel => exact ⟨k + 1, (n * 10 + ((s[k]).toNat - 48)) % 18446744073709551616, by congr 1; rw [IntKind.wrap_u64, IntKind.wrap_u64]; omega, by go_num, by omega, HN.out, Nat.mod_lt _ (by decide)⟩
            case measure => simp [intOf]; omega
        · have HR := Lib.hid (dec_bad (l := s.data.toList) (k := k) (by omega) (by rw [hget]; simpa using hd))
          have hd' : ((s[k]).toNat : Int) < 48 ∨ (57 : Int) < ((s[k]).toNat : Int) := by
            unfold isDig at hd; simp at hd; omega
          clear hat hd hget
          rcases hd' with b3 | b3
          · go_wp2
            refine bodyPost_ret (results_tmp3' rfl _ _ _) rfl ?_
            rw [HR.out]
            exact ⟨_, rfl, Below.refl _ _⟩
          · have b4 : ¬ ((s[k]).toNat : Int) < 48 := by omega
            go_wp2
            refine bodyPost_ret (results_tmp3' rfl _ _ _) rfl ?_
            rw [HR.out]
            exact ⟨_, rfl, Below.refl _ _⟩
      · obtain rfl : k = s.size := by omega
        have HU := Lib.hid (fun W => num_unsigned n W hn)
        by_cases h0 : 0 < s.size
        · have b3 : (0 : Int) < (s.size : Int) := by omega
          have hfin := Lib.hid (At10.fin (l := s.data.toList) (n := n) (by rw [hlen]; exact hat) (fun e => by rw [e] at hlen; simp at hlen; omega))
          clear hat
          go_wp2_with (go_at_call 39; refine (HU.out _).mono ?_; rintro e w1 ⟨b, hb, rfl, hb1⟩)
          refine bodyPost_ret (results_tmp3' rfl _ _ _) rfl ?_
          exact fin10 hfin.out hb hb1
        · have b3 : ¬ (0 : Int) < (s.size : Int) := by omega
          have HR := Lib.hid (show dec s.data.toList = none by
            rw [List.length_eq_zero_iff.1 (show s.data.toList.length = 0 by omega)]; rfl)
          go_wp2
          refine bodyPost_ret (results_tmp3' rfl _ _ _) rfl ?_
          rw [HR.out]
          exact ⟨_, rfl, Below.refl _ _⟩
  · have b1 : ¬ (2 : Int) < (s.size : Int) := by omega
    clear hpre
    go_enter Tryz.func30, Tryz.ntmps30
    go_wp2
    go_loop [9, 10] (fun vn vi => ∃ (k n : Nat), vn = .int .u64 n ∧ vi = .int .i64 k ∧ k ≤ s.size ∧ At10 s.data.toList k n ∧ n < 18446744073709551616) (fun _ vi => s.size - (intOf vi).toNat)
    case atStart => exact ⟨0, 0, rfl, rfl, by omega, ⟨by simp, by simp [val10_nil]⟩, by omega⟩
    case round =>
      obtain ⟨k, n, rfl, rfl, hk, hat, hn⟩ := hrel
      by_cases hlt : k < s.size
      · have b2 : (k : Int) < (s.size : Int) := by omega
        have hget : s.data.toList[k]'(by omega) = s[k] := rfl
        by_cases hd : isDig s[k] = true
        · have hd' : (48 : Int) ≤ ((s[k]).toNat : Int) ∧ ((s[k]).toNat : Int) ≤ 57 := by
            unfold isDig at hd; simp at hd; omega
          obtain ⟨b3, b4⟩ := hd'
          by_cases h20 : 20 < k
          · have b5 : (20 : Int) < (k : Int) := by omega
            have HR := Lib.hid (dec_long (l := s.data.toList) (by omega))
            clear hat hd hget
            go_wp2
            refine bodyPost_ret (results_tmp3' rfl _ _ _) rfl ?_
            rw [HR.out]
            exact ⟨_, rfl, Below.refl _ _⟩
          · have b5 : ¬ (20 : Int) < (k : Int) := by omega
            have HN := Lib.hid (hat.next (by omega) (by rw [hget]; exact hd))
            rw [hget] at HN
            clear hat hd hget
            go_wp2
            go_round
            case rel => exact ⟨k + 1, (n * 10 + ((s[k]).toNat - 48)) % 18446744073709551616, by congr 1; rw [IntKind.wrap_u64, IntKind.wrap_u64]; omega, by go_num, by omega, HN.out, Nat.mod_lt _ (by decide)⟩
            case measure => simp [intOf]; omega
        · have HR := Lib.hid (dec_bad (l := s.data.toList) (k := k) (by omega) (by rw [hget]; simpa using hd))
          have hd' : ((s[k]).toNat : Int) < 48 ∨ (57 : Int) < ((s[k]).toNat : Int) := by
            unfold isDig at hd; simp at hd; omega
          clear hat hd hget
          rcases hd' with b3 | b3
          · go_wp2
            refine bodyPost_ret (results_tmp3' rfl _ _ _) rfl ?_
            rw [HR.out]
            exact ⟨_, rfl, Below.refl _ _⟩
          · have b4 : ¬ ((s[k]).toNat : Int) < 48 := by omega
            go_wp2
            refine bodyPost_ret (results_tmp3' rfl _ _ _) rfl ?_
            rw [HR.out]
            exact ⟨_, rfl, Below.refl _ _⟩
      · obtain rfl : k = s.size := by omega
        have HU := Lib.hid (fun W => num_unsigned n W hn)
        by_cases h0 : 0 < s.size
        · have b3 : (0 : Int) < (s.size : Int) := by omega
          have hfin := Lib.hid (At10.fin (l := s.data.toList) (n := n) (by rw [hlen]; exact hat) (fun e => by rw [e] at hlen; simp at hlen; omega))
          clear hat
          go_wp2_with (go_at_call 39; refine (HU.out _).mono ?_; rintro e w1 ⟨b, hb, rfl, hb1⟩)
          refine bodyPost_ret (results_tmp3' rfl _ _ _) rfl ?_
          exact fin10 hfin.out hb hb1
        · have b3 : ¬ (0 : Int) < (s.size : Int) := by omega
          have HR := Lib.hid (show dec s.data.toList = none by
            rw [List.length_eq_zero_iff.1 (show s.data.toList.length = 0 by omega)]; rfl)
          go_wp2
          refine bodyPost_ret (results_tmp3' rfl _ _ _) rfl ?_
          rw [HR.out]
          exact ⟨_, rfl, Below.refl _ _⟩
end Go.Proofs.YtgpkekdbohdbfaaGreatDoor
