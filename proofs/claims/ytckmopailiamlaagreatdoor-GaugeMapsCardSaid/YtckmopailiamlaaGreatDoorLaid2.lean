/- The plain law of the quotient of two small whole numbers as floats: no NaN, not below 0, no infinity; at most 7/8 where the numbers are so. No program in sight. -/
import Derived.Test.YtckmopailiamlaaGreatDoorFloatM
import Derived.Test.YtckmopailiamlaaGreatDoorGaugeD
import Derived.Test.YtckmopailiamlaaGreatDoorLaneP
import Derived.Test.YtckmopailiamlaaGreatDoorFloatP
import Derived.Test.YtckmopailiamlaaGreatDoorTabV
import Derived.Test.YtckmopailiamlaaGreatDoorSqM
import Derived.Test.YtckmopailiamlaaGreatDoorLaw21a
import Derived.Test.YtckmopailiamlaaGreatDoorCoI
import Derived.Test.YtckmopailiamlaaGreatDoorRows
import Derived.ProofKit
import Derived.LaidMore
import Derived.Stop.LaidErr
import Derived.Lib.LaidTab
import Derived.HandedShaped
import Derived.Handed
namespace Go.Proofs.YtckmopailiamlaaGreatDoor.AmF
set_option maxRecDepth 100000
set_option maxHeartbeats 4000000
open Ieee Go.RowKit AmF AmD AmC Go.ChangeShapes Go.WideShapes Go.ChangeAt
theorem of_full (q : Nat) (h0 : 0 < q) (h : q < 9007199254740992) : ∃ M j : Nat, j = 52 - q.log2 ∧ q.log2 ≤ 52 ∧ M = q * 2 ^ j ∧ M.log2 = 52 ∧ double.read (double.nearest false q 0) = .number false M (-(j : Int)) := by
 have hlog : q.log2 ≤ 52 := log_le h0 (by simpa using h)
 refine ⟨q * 2 ^ (52 - q.log2), 52 - q.log2, rfl, hlog, rfl, by rw [log_mul_pow _ _ h0]; omega, ?_⟩
 have hm := pow_of_log (m := q * 2 ^ (52 - q.log2)) (Nat.mul_pos h0 (Nat.two_pow_pos _))
 rw [log_mul_pow _ _ h0, show q.log2 + (52 - q.log2) = 52 by omega] at hm
 have e52 : (2 : Nat) ^ 52 = 4503599627370496 := by decide
 have e53 : (2 : Nat) ^ (52 + 1) = 9007199254740992 := by decide
 rw [e52, e53] at hm
 unfold Format.nearest
 rw [if_neg (by omega)]
 simp only [d_least, d_frac, d_binade, d_inf]
 have hl : max ((0 : Int) + (q.log2 : Int) - ((52 : Nat) : Int)) (-1074) = (q.log2 : Int) - 52 := by omega
 rw [hl]
 have k1 : ((0 : Int) - ((q.log2 : Int) - 52)).toNat = 52 - q.log2 := by omega
 have k2 : ((q.log2 : Int) - 52 - 0).toNat = 0 := by omega
 have k3 : ((q.log2 : Int) - 52 - -1074).toNat = q.log2 + 1022 := by omega
 rw [k1, k2, k3, Nat.shiftLeft_eq]
 have hc := cut_exact Toward.even false (q * 2 ^ (52 - q.log2)) 0 (by omega)
 rw [Nat.pow_zero, Nat.mul_one] at hc
 rw [hc]
 generalize q * 2 ^ (52 - q.log2) = K at hm ⊢
 unfold Format.word
 simp only [Bool.false_eq_true, if_false]
 rw [Nat.min_eq_left (by omega)]
 rw [read_norm (E := q.log2 + 1023) (m := K - 4503599627370496) (by omega) (by omega) (by omega) (by omega)]
 rw [show 4503599627370496 + (K - 4503599627370496) = K by omega, show (-1074 : Int) + ((q.log2 + 1023 - 1 : Nat) : Int) = -((52 - q.log2 : Nat) : Int) by omega]
theorem cut_even_le (n d c : Nat) (hd : d ≤ n.log2 + 2) (h : n ≤ c * 2 ^ d) : Toward.even.cut false n d ≤ c := by
 rcases Nat.lt_or_eq_of_le h with hlt | rfl
 ·unfold Toward.cut
  rw [Nat.min_eq_left hd]
  have hg : (1 : Nat) <<< d = 2 ^ d := by rw [Nat.shiftLeft_eq, Nat.one_mul]
  simp only [hg]
  have hq : n / 2 ^ d < c := (Nat.div_lt_iff_lt_mul (Nat.two_pow_pos _)).2 hlt
  have hm : ∀ b : Bool, b.toNat ≤ 1 := by intro b; cases b <;> decide
  have := hm (decide (2 ^ d < 2 * (n % 2 ^ d)) || (2 ^ d == 2 * (n % 2 ^ d) && n / 2 ^ d % 2 == 1))
  omega
 ·rw [cut_exact _ _ _ _ hd]; exact Nat.le_refl _
theorem nearest_78 (Q d : Nat) (h54 : 54 ≤ Q.log2) (hd : d ≤ 200) (h : Q ≤ 7 * 2 ^ d) : double.nearest false Q (-(d : Int) - 3) ≤ 4606056518893174784 := by
 have h0 : Q ≠ 0 := by intro h; rw [h, Nat.log2_zero] at h54; omega
 have h8 : Q < 2 ^ (d + 2 + 1) := by rw [show d + 2 + 1 = d + 3 by omega, Nat.pow_add]; have := Nat.two_pow_pos d; omega
 have hl := log_le (by omega) h8
 unfold Format.nearest
 rw [if_neg h0]
 simp only [d_least, d_frac, d_binade, d_inf]
 generalize hL : Q.log2 = l at *
 have e : max (-(d : Int) - 3 + (l : Int) - ((52 : Nat) : Int)) (-1074) = (l : Int) - d - 55 := by omega
 rw [e]
 have k1 : (-(d : Int) - 3 - ((l : Int) - d - 55)).toNat = 0 := by omega
 have k2 : ((l : Int) - d - 55 - (-(d : Int) - 3)).toNat = l - 52 := by omega
 rw [k1, k2, Nat.shiftLeft_eq, Nat.pow_zero, Nat.mul_one]
 unfold Format.word
 simp only [Bool.false_eq_true, if_false]
 rcases Nat.lt_or_eq_of_le hl with hlt | hq
 ·have hk : Toward.even.cut false Q (l - 52) ≤ 2 ^ 53 := cut_le _ _ _ (by omega) (by omega)
  have e53 : (2 : Nat) ^ 53 = 9007199254740992 := by decide
  rw [e53] at hk
  generalize Toward.even.cut false Q (l - 52) = c at hk ⊢
  have hb : ((l : Int) - d - 55 - -1074).toNat ≤ 1020 := by omega
  generalize ((l : Int) - d - 55 - -1074).toNat = bb at hb ⊢
  clear h h8 h0 e hL k1 k2 hl hlt h54 e53
  refine Nat.le_trans (Nat.min_le_left _ _) ?_
  omega
 ·have hk : Toward.even.cut false Q (l - 52) ≤ 7 * 2 ^ 50 := by
   refine cut_even_le _ _ _ (by omega) ?_
   rw [Nat.mul_assoc, ← Nat.pow_add, show 50 + (l - 52) = d by omega]
   exact h
  have e50 : (2 : Nat) ^ 50 = 1125899906842624 := by decide
  rw [e50] at hk
  generalize Toward.even.cut false Q (l - 52) = c at hk ⊢
  have hb : ((l : Int) - d - 55 - -1074).toNat = 1021 := by omega
  rw [hb]
  clear h h8 h0 e hL k1 k2 hl hb e50
  refine Nat.le_trans (Nat.min_le_left _ _) ?_
  omega
theorem quot_full (m n ja jb : Nat) (hm : m.log2 = 52) (hn : n.log2 = 52) (h0 : n ≠ 0) : Datum.quotient (double.fractionBits + 2) (.number false m (-(ja : Int))) (.number false n (-(jb : Int))) = some (.number false (2 * (m * 2 ^ 54 / n) + (m * 2 ^ 54 % n != 0).toNat) (-(ja : Int) - -(jb : Int) - ((54 : Nat) : Int) - 1)) := by
 unfold Datum.quotient
 simp only
 rw [if_neg h0, hm, hn, d_frac, Nat.shiftLeft_eq, show 52 + 2 + 52 - 52 = 54 from rfl, Bool.xor_self]
theorem quot_zero (n : Nat) (i jb : Int) (h0 : n ≠ 0) : ∃ p : Int, Datum.quotient (double.fractionBits + 2) (.number false 0 i) (.number false n jb) = some (.number false 0 p) := by
 unfold Datum.quotient
 simp only
 rw [if_neg h0, Nat.shiftLeft_eq, Nat.zero_mul, Nat.zero_div, Nat.zero_mod, Bool.xor_self]
 exact ⟨_, rfl⟩
theorem nearest_zero (p : Int) : double.nearest false 0 p = 0 := by
 unfold Format.nearest
 rw [if_pos rfl]
 rfl
theorem quot_mid {m n : Nat} (pm : 4503599627370496 ≤ m ∧ m < 9007199254740992) (pn : 4503599627370496 ≤ n ∧ n < 9007199254740992) : 9007199254740992 ≤ m * 2 ^ 54 / n ∧ m * 2 ^ 54 / n < 36028797018963968 := by
 have e54 : (2 : Nat) ^ 54 = 18014398509481984 := by decide
 rw [e54]
 constructor
 ·rw [Nat.le_div_iff_mul_le (by omega)]; omega
 ·rw [Nat.div_lt_iff_lt_mul (by omega)]; omega
theorem quot_78 {a b m n ja jb la lb : Nat} (hm : m = a * 2 ^ ja) (hn : n = b * 2 ^ jb) (hja : ja = 52 - la) (hjb : jb = 52 - lb) (hla : la ≤ 52) (hlb : lb ≤ 52) (hle : la ≤ lb) (hab : 8 * a ≤ 7 * b) : 2 * (m * 2 ^ 54 / n) + (m * 2 ^ 54 % n != 0).toNat ≤ 7 * 2 ^ (52 + lb - la) := by
 have g1 : 8 * (m * 2 ^ 54) ≤ 7 * n * 2 ^ (54 + lb - la) := by
  have g2 : 8 * (m * 2 ^ 54) = 8 * a * 2 ^ (ja + 54) := by rw [hm, Nat.pow_add]; simp only [Nat.mul_assoc]
  have g3 : 7 * n * 2 ^ (54 + lb - la) = 7 * b * 2 ^ (ja + 54) := by
   rw [hn, Nat.mul_assoc, Nat.mul_assoc b, ← Nat.pow_add, show jb + (54 + lb - la) = ja + 54 by omega, Nat.mul_assoc]
  rw [g2, g3]
  exact Nat.mul_le_mul_right _ hab
 have g4 : (2 : Nat) ^ (54 + lb - la) = 8 * 2 ^ (51 + lb - la) := by rw [show 54 + lb - la = 3 + (51 + lb - la) by omega, Nat.pow_add]
 have g5 : (2 : Nat) ^ (52 + lb - la) = 2 * 2 ^ (51 + lb - la) := by rw [show 52 + lb - la = 1 + (51 + lb - la) by omega, Nat.pow_add]
 rw [g4] at g1
 rw [g5]
 generalize 2 ^ (51 + lb - la) = T at g1
 generalize m * 2 ^ 54 = D at g1
 have g6 : D ≤ n * (7 * T) := by
  have : 7 * n * (8 * T) = 8 * (n * (7 * T)) := by
   rw [Nat.mul_comm 7 n, Nat.mul_assoc, Nat.mul_left_comm 7 8 T, Nat.mul_left_comm n 8]
  rw [this] at g1
  exact Nat.le_of_mul_le_mul_left g1 (by decide)
 have hdm := Nat.div_add_mod D n
 have hXT : D / n ≤ 7 * T := Nat.div_le_of_le_mul g6
 generalize D / n = X at hdm hXT
 rcases Nat.lt_or_eq_of_le hXT with hlt | rfl
 ·have hs' : (D % n != 0).toNat ≤ 1 := by cases (D % n != 0) <;> decide
  omega
 ·have hr : D % n = 0 := by omega
  rw [hr]
  show 2 * (7 * T) + 0 ≤ _
  omega
theorem div_small (a b : Nat) (ha : a < 2199023255552) (hb : 0 < b) (hb2 : b < 2199023255552) : ∃ r, double.div (double.nearest false a 0) (double.nearest false b 0) = some r ∧ Low r ∧ (8 * a ≤ 7 * b → r ≤ 4606056518893174784) := by
 obtain ⟨n, jb, hjb, lb, hn, hn52, hrb⟩ := of_full b hb (by omega)
 unfold Format.div
 rw [hrb]
 have hnp : 0 < n := by rw [hn]; exact Nat.mul_pos hb (Nat.two_pow_pos _)
 by_cases h0 : a = 0
 ·subst h0
  rw [nearest_zero, read_small (by decide)]
  obtain ⟨p, hp⟩ := quot_zero n (-1074) (-(jb : Int)) (by omega)
  rw [hp]
  refine ⟨double.nearest false 0 p, rfl, ?_⟩
  rw [nearest_zero]
  exact ⟨by unfold Low; omega, fun _ => by omega⟩
 ·obtain ⟨m, ja, hja, la, hm, hm52, hra⟩ := of_full a (by omega) (by omega)
  have hmp : 0 < m := by rw [hm]; exact Nat.mul_pos (by omega) (Nat.two_pow_pos _)
  rw [hra, quot_full m n ja jb hm52 hn52 (by omega)]
  refine ⟨double.nearest false (2 * (m * 2 ^ 54 / n) + (m * 2 ^ 54 % n != 0).toNat) (-(ja : Int) - -(jb : Int) - ((54 : Nat) : Int) - 1), rfl, ?_⟩
  have pm := pow_of_log hmp
  have pn := pow_of_log hnp
  rw [hm52] at pm
  rw [hn52] at pn
  have e52 : (2 : Nat) ^ 52 = 4503599627370496 := by decide
  have e53 : (2 : Nat) ^ (52 + 1) = 9007199254740992 := by decide
  rw [e52, e53] at pm pn
  have hX := quot_mid pm pn
  have hla : a.log2 ≤ 40 := log_le (by omega) (by simpa using ha)
  have hlb : b.log2 ≤ 40 := log_le hb (by simpa using hb2)
  have hs : (m * 2 ^ 54 % n != 0).toNat ≤ 1 := by cases (m * 2 ^ 54 % n != 0) <;> decide
  have h78 := fun hle hab => quot_78 (a := a) (b := b) hm hn hja hjb la lb hle hab
  obtain ⟨Q, hQ⟩ : ∃ Q, Q = 2 * (m * 2 ^ 54 / n) + (m * 2 ^ 54 % n != 0).toNat := ⟨_, rfl⟩
  rw [← hQ] at h78 ⊢
  generalize m * 2 ^ 54 / n = X at hX hQ
  generalize (m * 2 ^ 54 % n != 0).toNat = s at hs hQ
  have e55 : (2 : Nat) ^ (55 + 1) = 72057594037927936 := by decide
  have e54 : (2 : Nat) ^ 54 = 18014398509481984 := by decide
  have hl1 : Q.log2 ≤ 55 := log_le (by omega) (by rw [e55]; omega)
  have hl2 : 54 ≤ Q.log2 := (Nat.le_log2 (by omega)).2 (by rw [e54]; omega)
  refine ⟨nearest_low _ _ (.inr (by omega)), fun hab => ?_⟩
  have hle : a.log2 ≤ b.log2 := by
   have h1 := (pow_of_log (m := a) (by omega)).1
   exact (Nat.le_log2 (by omega)).2 (by omega)
  have := nearest_78 Q (52 + b.log2 - a.log2) hl2 (by omega) (h78 hle hab)
  rw [show -((52 + b.log2 - a.log2 : Nat) : Int) - 3 = -(ja : Int) - -(jb : Int) - ((54 : Nat) : Int) - 1 by omega] at this
  exact this
end Go.Proofs.YtckmopailiamlaaGreatDoor.AmF

/-! How full a map is, in floats: what the walk's tests tell; gauge.Load, gauge.Waste of no map. No statement of the claim. -/
namespace Go.Proofs.YtckmopailiamlaaGreatDoor
set_option maxRecDepth 100000
set_option maxHeartbeats 4000000
open Ieee Go.RowKit AmF AmD AmC Go.ChangeShapes Go.WideShapes Go.ChangeAt
theorem float_nat (n : Nat) : floatOfInt .f64 (n : Int) = Ieee.double.nearest false n 0 := by
 unfold floatOfInt FloatKind.nearest FloatKind.encode
 simp only [Int.natAbs_natCast]
 rw [show decide ((n : Int) < 0) = false by simp]
 rfl
theorem low_key {r : Nat} (h : Low r) : nanB r = false ∧ AmF.key r = (r : Int) ∧ infS false r = false ∧ rung r = r := by
 unfold Low at h
 have e1 : rung r = r := Nat.mod_eq_of_lt (by omega)
 have e2 : sgn r = false := by unfold sgn; rw [Nat.div_eq_of_lt (by omega)]; rfl
 refine ⟨?_, ?_, ?_, e1⟩
 ·unfold nanB; rw [e1]; simp; omega
 ·unfold AmF.key; rw [e1, e2]; rfl
 ·unfold infS; rw [e1, e2]; simp; omega
structure GaF (len held lf r1 r2 : Nat) : Prop where
 d1 : Ieee.double.div (floatOfInt .f64 (len : Int)) (floatOfInt .f64 ((8 * held : Nat) : Int)) = some r1
 d2 : Ieee.double.div (floatOfInt .f64 (lf : Int)) (floatOfInt .f64 (held : Int)) = some r2
 e1 : (FloatKind.f64.format.order r1 r1 != some .eq) = false
 e2 : (FloatKind.f64.format.order r2 r2 != some .eq) = false
 g1 : (FloatKind.f64.format.order r1 4606056518893174784 == some .gt) = false
 l1 : (FloatKind.f64.format.order r1 0 == some .lt) = false
 l2 : (FloatKind.f64.format.order r2 0 == some .lt) = false
 n2 : nanB r2 = false
 i2 : infS false r2 = false ∧ rung r2 = r2
 b2 : r2 < 18446744073709551616
theorem ga_facts {len held lf : Nat} (h1 : len ≤ 7 * held) (h2 : 1 ≤ held) (h3 : held ≤ 6144) (h4 : lf ≤ 1099511627776) : ∃ r1 r2, GaF len held lf r1 r2 := by
 obtain ⟨r1, a1, a2, a3⟩ := div_small len (8 * held) (by omega) (by omega) (by omega)
 obtain ⟨r2, c1, c2, _⟩ := div_small lf held (by omega) (by omega) (by omega)
 obtain ⟨k1, k2, _, _⟩ := low_key a2
 obtain ⟨m1, m2, m3, m4⟩ := low_key c2
 have hz : nanB 0 = false := by decide
 have kz : AmF.key 0 = 0 := by decide
 have hc : nanB 4606056518893174784 = false := by decide
 have kc : AmF.key 4606056518893174784 = 4606056518893174784 := by decide
 have h7 := a3 (by omega)
 refine ⟨r1, r2, ?_, ?_, by rw [neq_self]; exact k1, by rw [neq_self]; exact m1, ?_, ?_, ?_, m1, ⟨m3, m4⟩, ?_⟩
 ·rw [float_nat, float_nat]; exact a1
 ·rw [float_nat, float_nat]; exact c1
 ·rw [gt_key k1 hc, k2, kc]; simp; omega
 ·rw [lt_key k1 hz, k2, kz]; simp
 ·rw [lt_key m1 hz, m2, kz]; simp
 ·unfold Low at c2; omega
theorem math_IsInf_low (x : Nat) (hx : x < 18446744073709551616) (w : World) (h : nanB x = false) (h0 : rung x = x) (h1 : infS false x = false) : Calls Tryz.prog 15 #[.float .f64 x, .int .i64 0] w fun e w' => e = .returned (.bool false) ∧ w = w' := by
 have H := qd (show (FloatKind.f64.format.order x 9218868437227405311 == some .gt) = false from by rw [inf_gt h]; exact h1)
 have ha := math_Abs x hx w
 rw [h0] at ha
 have HA := qd ha
 clear ha
 go_in
 go_wp2_with fail
 refine HA.out.mono ?_
 rintro e w1 ⟨rfl, rfl⟩
 go_wp2
 go_ret
 exact ⟨ret_bool H.out, rfl⟩
theorem nan_ne : (FloatKind.f64.format.order 9221120237041090561 9221120237041090561 != some .eq) = true := by rw [neq_self]; decide
theorem gauge_Load_nil (w : World) : Calls Tryz.prog 12 #[.pointer none] w fun e w' => e = .returned (.float .f64 9221120237041090561) ∧ w = w' := by
 have HN := qd (fun (W : World) => math_NaN W)
 go_in
 go_wp2_with fail
 refine (HN.out _).mono ?_
 rintro e w1 ⟨rfl, rfl⟩
 go_wp2
 go_ret
 exact ⟨rfl, rfl⟩
theorem gauge_Waste_nil (w : World) : Calls Tryz.prog 13 #[.pointer none] w fun e w' => e = .returned (.float .f64 9221120237041090561) ∧ w = w' := by
 have HN := qd (fun (W : World) => math_NaN W)
 go_in
 go_wp2_with fail
 refine (HN.out _).mono ?_
 rintro e w1 ⟨rfl, rfl⟩
 go_wp2
 go_ret
 exact ⟨rfl, rfl⟩
end Go.Proofs.YtckmopailiamlaaGreatDoor

/-! How full a map is, and what it has still to let go, by their contracts. No statement of the claim. -/
namespace Go.Proofs.YtckmopailiamlaaGreatDoor
set_option maxRecDepth 100000
set_option maxHeartbeats 4000000
open Ieee Go.RowKit AmF AmD AmC Go.ChangeShapes Go.WideShapes Go.ChangeAt
section
variable {W0 : World} {E : Nat → Addr} {H : Nat → Nat} {Kk M I b : Nat} {G : List Nat} {w : World} {a : Pool} {ids : List Nat} {its : List It} {gv : Nat} {lst : Cnt} {lf r1 r2 : Nat}
theorem gauge_Load (h : RtAt W0 E H Kk M I b G w a ids its gv lst) (hf : WashIs w b lf) (hg : GaF a.ents.length a.groups lf r1 r2) : Calls Tryz.prog 12 #[.pointer (some ⟨b, 0, none⟩)] w fun y w' => y = .returned (.float .f64 r1) ∧ Below w.heap.size w w' := by
 have hgr := h.room.2.2
 have hw8 : IntKind.i64.wrap (8 * (a.groups : Int)) = ((8 * a.groups : Nat) : Int) := by rw [IntKind.wrap_i64]; omega
 have HG := qd (rt_Groups h hf)
 have HA := qd h
 have HR := qd (fun (W : World) => gauge_Ratio_num (a.ents.length : Int) ((8 * a.groups : Nat) : Int) r1 hg.d1 W)
 clear h hf hg hgr
 go_in
 go_wp2_with fail
 refine HG.out.mono ?_
 rintro y w1 ⟨rfl, hb⟩
 have HB := qd hb
 have HL := qd (rt_Len (HA.out.below hb))
 clear hb HG
 go_wp2_with fail
 refine HL.out.mono ?_
 rintro y w2 ⟨rfl, rfl⟩
 go_wp2_with fail
 refine (HR.out _).mono ?_
 rintro y w3 ⟨rfl, rfl⟩
 go_wp2
 go_ret
 exact ⟨rfl, HB.out⟩
theorem gauge_Waste (h : RtAt W0 E H Kk M I b G w a ids its gv lst) (hf : WashIs w b lf) (hg : GaF a.ents.length a.groups lf r1 r2) : Calls Tryz.prog 13 #[.pointer (some ⟨b, 0, none⟩)] w fun y w' => y = .returned (.float .f64 r2) ∧ Below w.heap.size w w' := by
 have hgr := h.room.2.2
 have hw8 : IntKind.i64.wrap (8 * (a.groups : Int)) = ((8 * a.groups : Nat) : Int) := by rw [IntKind.wrap_i64]; omega
 have HG := qd (rt_Groups h hf)
 have HA := qd h
 have HR := qd (fun (W : World) => gauge_Ratio_num (lf : Int) (a.groups : Int) r2 hg.d2 W)
 clear h hf hg hgr
 go_in
 go_wp2_with fail
 refine HG.out.mono ?_
 rintro y w1 ⟨rfl, hb⟩
 have HB := qd hb
 clear hb HG
 go_wp2_with fail
 refine (HR.out _).mono ?_
 rintro y w3 ⟨rfl, rfl⟩
 go_wp2
 go_ret
 exact ⟨rfl, HB.out⟩
end
end Go.Proofs.YtckmopailiamlaaGreatDoor

/-! GaugeMaps: how full every map is. -/
namespace Go.Proofs.YtckmopailiamlaaGreatDoor
set_option maxRecDepth 100000
set_option maxHeartbeats 4000000
open Ieee Go.RowKit AmF AmD AmC Go.ChangeShapes Go.WideShapes Go.ChangeAt
theorem gPow10 : Tryz.prog.globalNamed "internal/strconv.uint64pow10" = some 10 := by kernel_rfl
theorem pow_keep {w w' : World} (h : Lib.TabIs Tryz.prog w "internal/strconv.uint64pow10" .u64 Lib.pow10Tab) (hb : Below w.heap.size w w') : Lib.TabIs Tryz.prog w' "internal/strconv.uint64pow10" .u64 Lib.pow10Tab := by
 unfold Lib.TabIs World.var? at h ⊢
 simp only [gPow10, Option.bind_some] at h ⊢
 have hlt : 10 < w.heap.size := by
  rcases Nat.lt_or_ge 10 w.heap.size with h1 | h1
  ·exact h1
  ·simp [Array.getElem?_eq_none h1] at h
 rw [hb.block _ hlt]
 exact h
theorem law_gauge {E : Nat → Addr} (k m i : Int) (A : Option Addr) (n c : Nat) (l : List Nat) (B : Option Addr) (ma d : Nat) (acts : List LAct) (w : World) (hE : Env w E w) (hT : Lib.TabIs Tryz.prog w "internal/strconv.uint64pow10" .u64 Lib.pow10Tab) (hl : l.length = n) (hll : ∀ x ∈ l, x < 18446744073709551616) (hR : Reads w w.heap.size 1 A n (numsV l)) (hla : acts.length = ma) (hRa : Reads w w.heap.size 3 B ma (acts.flatMap LAct.cells)) : Calls Tryz.prog 3 #[cfgV k m i, .slice A n c, .slice B ma d] w fun e w' => e = .returned (.bool true) ∧ Below w.heap.size w w' := by
 have HE := qd hE
 have HT := qd hT
 have HR := qd hR
 have HRa := qd hRa
 have HL := qd hl
 have HLl := qd hll
 have HLa := qd hla
 have hB0 := Blk.new w 23 #[.int .i64 k, .int .i64 m, .int .i64 i]
 have hb0 := (Below.refl w.heap.size w).alloc (Nat.le_refl _) (.cells #[.int .i64 k, .int .i64 m, .int .i64 i] 23)
 unfold cfgV
 clear hE hT hR hRa hl hll hla
 go_in
 go_upto_region 1 with fail
 refine nameW (F := fun v => Blk v w.heap.size 23 #[.int .i64 k, .int .i64 m, .int .i64 i] ∧ Below w.heap.size w v) ⟨hB0, hb0⟩ ?_
 clear hB0 hb0
 rintro w1 ⟨hB1, hb1⟩
 obtain ⟨xb, hxb⟩ : ∃ xb, xb = w.heap.size := ⟨_, rfl⟩
 rw [← hxb] at hB1 ⊢
 have HX := qd hB1
 have HXl := qd (show w.heap.size ≤ xb from by omega)
 have HB := qd hb1
 have HE1 := qd (HE.out.next hb1)
 have HAl := qd (alive35 w1 (pow_keep HT.out hb1))
 clear hB1 hb1 hxb
 go_wp2_with fail
 refine HAl.out.mono ?_
 rintro y w2 ⟨rfl, hb2⟩
 replace HX := qB hb2 HX
 replace HB := qd (below2 HB.out hb2)
 replace HE1 := qd (HE1.out.next hb2)
 clear hb2 HAl
 have HLg := qd (law25_Long A B n c ma d w2)
 go_wp2_with fail
 refine HLg.out.mono ?_
 rintro y w3 ⟨rfl, rfl⟩
 clear HLg
 by_cases hlong : n < 1 ∨ 220 < n ∨ 700 < ma
 ·have hlg : (decide (n < 1) || (decide (220 < n) || decide (700 < ma))) = true := by simp; omega
  rw [hlg]
  clear hlg
  go_wp2
  go_ret
  exact ⟨rfl, HB.out⟩
 ·have hlg : (decide (n < 1) || (decide (220 < n) || decide (700 < ma))) = false := by simp; omega
  rw [hlg]
  clear hlg
  obtain ⟨c0, c1, c2⟩ := HX.out.c3
  cases hcf : cfgOk k m i with
  | false =>
   have hnb := rt_New_bad HE1.out k m i hcf
   rw [errV_pos E (by omega : 1 ≤ 1)] at hnb
   unfold cfgV at hnb
   have HNw := qd hnb
   clear hnb hcf
   go_wp2_with fail
   refine HNw.out.mono ?_
   rintro y w4 ⟨rfl, hb4⟩
   replace HB := qd (below2 HB.out hb4)
   clear hb4 HNw
   go_wp2
   go_ret
   exact ⟨rfl, HB.out⟩
  | true =>
   obtain ⟨K, M, I, hK, hM, hk1, hm1, hi1⟩ := cfg_nat hcf
   have hI8 : 1 ≤ I ∧ I ≤ 8 := by
    unfold cfgOk inB at hcf
    simp at hcf
    omega
   have hnb := rt_New (lawH l) HE1.out k m i hcf K M I ⟨hK, hM, hk1, hm1, hi1⟩ hI8
   unfold cfgV at hnb
   have HNw := qd hnb
   have HKm := qd (And.intro hK (And.intro hM (And.intro hI8 hi1)))
   clear hnb hcf hK hM hk1 hm1 hi1 hI8
   go_wp2_with fail
   refine HNw.out.mono ?_
   have HX0 := qd HX.out.lt
   rintro y w4 ⟨b, G, rfl, hA4, hG4, hb4⟩
   replace HX := qB hb4 HX
   have HGx := qd (show xb ∉ G ∧ ∀ q ∈ G, w.heap.size ≤ q from ⟨fun hg => by have := hG4 _ hg; have := HX0.out; omega, fun q hq => Nat.le_trans HB.out.size (hG4 q hq)⟩)
   have HA := qd hA4
   have HB4 := qd (below2 HB.out hb4)
   clear hA4 hG4 hb4 HNw c0 c1 c2 HB HE1
   go_wp2
   go_loopw [10, 11, 38] (fun _ _ v46 wr => ∃ (j : Nat) (G : List Nat) (a : Pool) (ids : List Nat) (lst : Cnt), j ≤ ma ∧ v46 = .int .i64 (j : Int) ∧ Hid (RtAt w E (lawH l) K M I b G wr a ids [] 0 lst) ∧ Hid (xb ∉ G ∧ ∀ q ∈ G, w.heap.size ≤ q) ∧ Hid (Blk wr xb 23 #[.int .i64 k, .int .i64 m, .int .i64 i]) ∧ Hid (Below w.heap.size w wr)) (fun _ _ v46 _ => ma - (intOf v46).toNat)
   case atStart => exact ⟨0, _, _, _, _, by omega, rfl, HA, HGx, HX, HB4⟩
   case round =>
    clear HA HGx HX HB4
    obtain ⟨j, G, a, ids, lst, hj, rfl, HA, HGx, HX, HB⟩ := hrel
    have hma : ma ≤ 700 := by omega
    by_cases hlt : j < ma
    ·have hlt' : (j : Int) < (ma : Int) := by omega
     have hj0 : (0 : Int) ≤ (j : Int) := by omega
     obtain ⟨act, hact⟩ : ∃ act, acts[j]? = some act := ⟨_, List.getElem?_eq_getElem (by have := HLa.out; omega)⟩
     obtain ⟨g, off, hBv, hgl, m0, mm1, mm2⟩ := act_cells HRa.out HLa.out hact
     have hkp := fun (p : Addr) (v : Value) (hp : p.block < w.heap.size) (hh : w.cell? p = some v) => (World.cell?_of_block (HB.out.block p.block hp)).trans hh
     have r0 := hkp _ _ hgl m0
     have r1 := hkp _ _ hgl mm1
     have r2 := hkp _ _ hgl mm2
     have HJ := qd (Nat.succ_le_of_lt hlt)
     have HMe := qd (fewer_rounds hlt)
     subst hBv
     clear m0 mm1 mm2 hkp hact
     go_upto_region 11 with fail
     refine nameB 34 #[.int .i64 act.kind, .int .i64 act.key, .int .i64 act.n] ?_
     rintro w5 ⟨hB5, hb5⟩
     obtain ⟨bx, hbx⟩ : ∃ bx, bx = wr.heap.size := ⟨_, rfl⟩
     rw [← hbx] at hB5 ⊢
     have HB5 := qd hB5
     obtain ⟨a0, a1, a2⟩ := hB5.c3
     replace HA := qd (HA.out.below hb5)
     replace HB := qd (below2 HB.out hb5)
     replace HX := qB hb5 HX
     have HEn := qd (law25_Entry A n c l act (by omega) HL.out w5 (by
      obtain ⟨q1, q2⟩ := HR.out
      refine ⟨q1, fun hp => ?_⟩
      obtain ⟨g', off', z1, z2, z3⟩ := q2 hp
      have hzz := HB.out.size
      exact ⟨g', off', z1, by omega, fun jj u hu => (World.cell?_of_block (HB.out.block _ z2)).trans (z3 jj u hu)⟩))
     have HE5 := qd (entOf_ok HLl.out (by have := HL.out; omega) act)
     obtain ⟨e, he⟩ : ∃ e, e = entOf l act := ⟨_, rfl⟩
     rw [← he] at HEn HE5
     unfold actV entV at HEn
     clear hB5 hb5 r0 r1 r2 hbx he
     go_wp2_with fail
     refine HEn.out.mono ?_
     rintro y w6 ⟨rfl, hb6⟩
     replace HA := qd (HA.out.below hb6)
     replace HB := qd (below2 HB.out hb6)
     replace HX := qB hb6 HX
     replace HB5 := qB hb6 HB5
     clear hb6 HEn a0 a1 a2
     go_upto_region 12 with fail
     refine nameB 37 #[.int .u64 (e.key : Int), .int .u64 (e.val : Int), .int .u64 (e.hash : Int)] ?_
     rintro w7 ⟨hB7, hb7⟩
     obtain ⟨ex, hex⟩ : ∃ ex, ex = w6.heap.size := ⟨_, rfl⟩
     rw [← hex] at hB7 ⊢
     replace HA := qd (HA.out.below hb7)
     replace HB := qd (below2 HB.out hb7)
     replace HX := qB hb7 HX
     replace HB5 := qB hb7 HB5
     have a0 := HB5.out.cell 0
     simp only [List.getElem?_toArray, List.getElem?_cons_zero] at a0
     obtain ⟨e0, e1, e2⟩ := hB7.c3
     clear hB7 hb7 hex HB5
     obtain hk | hk | hk | hk : act.kind = 0 ∨ act.kind = 1 ∨ act.kind = 3 ∨ (¬ act.kind = 0 ∧ ¬ act.kind = 1 ∧ ¬ act.kind = 3) := by omega
     all_goals first
      |
       have hk0 : act.kind = 0 := hk
       clear hk
       have hpu := rt_Put HA.out e HE5.out
       obtain ⟨ev, hev, hv⟩ : ∃ ev, ev = errV E (putC M a.ents e.key) ∧ (ev = .nilIface ∨ ∃ A, ev = .iface 296 (.pointer (some A))) := ⟨_, rfl, errV_form E _⟩
       rw [← hev] at hpu
       have HPu := qd hpu
       clear hpu hev
       go_wp2_with fail
       refine HPu.out.mono ?_
       rintro y w8 ⟨rfl, a', ids', lst', ⟨G', hA8, hs8, hm8⟩, hpr⟩
       have HA8 := qd hA8
       have HB8 := qd (HB.out.trans (hm8.below HGx.out.2 HB.out.size))
       have HX8 := qd (HX.out.mod hm8 HGx.out.1)
       have HGx8 := qd (show xb ∉ G' ∧ ∀ q ∈ G', w.heap.size ≤ q from ⟨fun hg => (hs8 _ hg).elim HGx.out.1 (fun k => by have := HX.out.lt; omega), fun q hq => (hs8 q hq).elim (HGx.out.2 q) (fun k => by have := HB.out.size; omega)⟩)
       clear hA8 hs8 hm8 hpr HPu
       (rcases hv with rfl | ⟨AE, rfl⟩)
      |
       have hk1 : act.kind = 1 := hk
       clear hk
       have HPu := qd (rt_Delete HA.out e HE5.out)
       go_wp2_with fail
       refine HPu.out.mono ?_
       rintro y w8 ⟨rfl, a', ids', lst', ⟨G', hA8, hs8, hm8⟩, hpr⟩
       have HA8 := qd hA8
       have HB8 := qd (HB.out.trans (hm8.below HGx.out.2 HB.out.size))
       have HX8 := qd (HX.out.mod hm8 HGx.out.1)
       have HGx8 := qd (show xb ∉ G' ∧ ∀ q ∈ G', w.heap.size ≤ q from ⟨fun hg => (hs8 _ hg).elim HGx.out.1 (fun k => by have := HX.out.lt; omega), fun q hq => (hs8 q hq).elim (HGx.out.2 q) (fun k => by have := HB.out.size; omega)⟩)
       clear hA8 hs8 hm8 hpr HPu
      |
       have hk3 : act.kind = 3 := hk
       clear hk
       have HPu := qd (rt_Clear HA.out HKm.out.2.1.1 HKm.out.2.2.1.1)
       go_wp2_with fail
       refine HPu.out.mono ?_
       rintro y w8 ⟨rfl, lst', G', hA8, hs8, hm8⟩
       have HA8 := qd hA8
       have HB8 := qd (HB.out.trans (hm8.below HGx.out.2 HB.out.size))
       have HX8 := qd (HX.out.mod hm8 HGx.out.1)
       have HGx8 := qd (show xb ∉ G' ∧ ∀ q ∈ G', w.heap.size ≤ q from ⟨fun hg => (hs8 _ hg).elim HGx.out.1 (fun k => by have := HX.out.lt; omega), fun q hq => (hs8 q hq).elim (HGx.out.2 q) (fun k => by have := HB.out.size; omega)⟩)
       clear hA8 hs8 hm8 HPu
       obtain ⟨a', ha'⟩ : ∃ a', a' = pool0 := ⟨_, rfl⟩
       obtain ⟨ids', hids'⟩ : ∃ ids' : List Nat, ids' = [] := ⟨_, rfl⟩
       rw [← ha', ← hids'] at HA8
       clear ha' hids'
      |
       obtain ⟨hk0, hk1, hk3⟩ := hk
       go_upto_region 19 with fail
       obtain ⟨G', a', ids', lst', w8, hw8, HA8, HGx8, HX8, HB8⟩ : ∃ (G' : List Nat) (a' : Pool) (ids' : List Nat) (lst' : Cnt) (w8 : World), w7 = w8 ∧ Hid (RtAt w E (lawH l) K M I b G' w8 a' ids' [] 0 lst') ∧ Hid (xb ∉ G' ∧ ∀ q ∈ G', w.heap.size ≤ q) ∧ Hid (Blk w8 xb 23 #[.int .i64 k, .int .i64 m, .int .i64 i]) ∧ Hid (Below w.heap.size w w8) := ⟨G, a, ids, lst, w7, rfl, HA, HGx, HX, HB⟩
       subst hw8
     all_goals
      clear HA HGx HX HB a0 e0 e1 e2
      have HA := HA8
      have HGx := HGx8
      have HX := HX8
      have HB := HB8
      clear HA8 HGx8 HX8 HB8
      obtain ⟨lf, hlf⟩ := HA.out.left
      have HLf := qd hlf
      obtain ⟨r1, r2, hga⟩ := ga_facts HA.out.room.1 HA.out.room.2.1 HA.out.room.2.2 hlf.1
      have HGa := qd hga
      have HGr := qd (rt_Groups HA.out hlf)
      clear hlf hga
      go_wp2_with fail
      refine HGr.out.mono ?_
      rintro y w9 ⟨rfl, hb9⟩
      replace HA := qd (HA.out.below hb9)
      replace HB := qd (below2 HB.out hb9)
      replace HX := qB hb9 HX
      replace HLf := qd (HLf.out.below hb9)
      have HLo := qd (gauge_Load HA.out HLf.out HGa.out)
      clear hb9 HGr
      go_wp2_with fail
      refine HLo.out.mono ?_
      rintro y wa ⟨rfl, hba⟩
      replace HA := qd (HA.out.below hba)
      replace HB := qd (below2 HB.out hba)
      replace HX := qB hba HX
      replace HLf := qd (HLf.out.below hba)
      have HWs := qd (gauge_Waste HA.out HLf.out HGa.out)
      clear hba HLo
      go_wp2_with fail
      refine HWs.out.mono ?_
      rintro y wb ⟨rfl, hbb⟩
      replace HA := qd (HA.out.below hbb)
      replace HB := qd (below2 HB.out hbb)
      replace HX := qB hbb HX
      replace HLf := qd (HLf.out.below hbb)
      have HLn := qd (rt_Len HA.out)
      have hgr := HA.out.room.2.2
      have hw8 : IntKind.i64.wrap (8 * (a'.groups : Int)) = ((8 * a'.groups : Nat) : Int) := by rw [IntKind.wrap_i64]; omega
      have hci := fun (n : Int) (W : World) => run_int_float n W
      have hd1 := HGa.out.d1
      rw [show ((8 * a'.groups : Nat) : Int) = 8 * (a'.groups : Int) by omega] at hd1
      have hq1 := fun (t : TypeId) (W : World) => run_float_arith (P := Tryz.prog) W .quo t .f64 _ _ r1 hd1
      have hq2 := fun (t : TypeId) (W : World) => run_float_arith (P := Tryz.prog) W .quo t .f64 _ _ r2 HGa.out.d2
      have hf1 := HGa.out.e1
      have hf2 := HGa.out.e2
      have hf3 := HGa.out.g1
      have hf4 := HGa.out.l1
      have hf5 := HGa.out.l2
      have HIn := qd (fun (W : World) => math_IsInf_low r2 HGa.out.b2 W HGa.out.n2 HGa.out.i2.2 HGa.out.i2.1)
      clear hbb HWs hgr hd1
      go_wp2_with fail
      refine HLn.out.mono ?_
      rintro y wd ⟨rfl, rfl⟩
      go_wp2_with fail
      refine (HIn.out _).mono ?_
      rintro y wd ⟨rfl, rfl⟩
      go_wp2
      go_roundw
      all_goals first | exact ⟨⟨j + 1, G', a', ids', lst', HJ.out, rfl, HA, HGx, HX, HB⟩, HMe.out⟩ | exact ⟨j + 1, G', a', ids', lst', HJ.out, rfl, HA, HGx, HX, HB⟩ | exact HMe.out
    ·obtain rfl : j = ma := by omega
     have hlt' : ¬ (j : Int) < (j : Int) := by omega
     have HL1 := qd (fun (W : World) => gauge_Load_nil W)
     have HL2 := qd (fun (W : World) => gauge_Waste_nil W)
     have hnn := nan_ne
     go_wp2_with fail
     refine (HL1.out _).mono ?_
     rintro y wd ⟨rfl, rfl⟩
     go_wp2_with fail
     refine (HL2.out _).mono ?_
     rintro y wd ⟨rfl, rfl⟩
     go_wp2
     go_ret
     exact ⟨rfl, HB.out⟩
end Go.Proofs.YtckmopailiamlaaGreatDoor

/-! From what a row lists of the package-level variables ('laid') to what the walks ask; and the wrap that hands on both that and the world's shape. -/
namespace Go.Proofs.YtckmopailiamlaaGreatDoor
set_option maxRecDepth 100000
set_option maxHeartbeats 4000000
open Ieee Go.RowKit AmF AmD AmC Go.ChangeShapes Go.WideShapes Go.ChangeAt
variable {s : ChangeSpec} {again apart fresh handsOn : Bool} {P : Program} {W : World}
section
variable {H : Type} {enc : TypeId × Value → H}
theorem returnsLaid {a : Assume} {C : Checked} {os : Os} {f : FuncId} {fn : Func} {conds : List PathCond} {X : World → Array Value → Prop} (hX : ∀ (w w' : World) (args : Array Value), w.heap = w'.heap → X w args → X w' args) (own : ownKnob C.prog.godebug = none) (started : os.Started) (noInit : C.prog.inits.idxOf? f = none) (hfn : C.prog.funcs[f]? = some fn) (witness : ∃ (w : World) (tape : Tape) (i : Input), w.os = os ∧ (w.forCall tape i).Shaped C.prog ∧ i.vars = [] ∧ Input.okWide C.prog (w.forCall tape i) .any w.heap.size f i ∧
   ((s.pre enc C.prog fn conds apart (w.forCall tape i).memory i.args ∧ X (w.forCall tape i).memory i.args) ∧ sizedMet enc C.prog fn (OpenSpec.ofChange s) apart (w.forCall tape i).memory i.args) ∧ a.holds C.prog (lone (Frame.enter C.prog f i.args .normal) [] (w.forCall tape i))) (contract : ∀ (W : World) (base : Nat) (args : Array Value) (ds gs : List (DataW H)) (before : List MemPlace),
   (∀ (j : Nat) t v, fn.params[j]? = some t → args[j]? = some v → Value.okWide C.prog W .any base t v) →
   DataW.Whole enc C.prog fn.params.toList s.vars apart W args.toList ds gs before →
   (DataW.weightsEach C.prog (fn.params.toList ++ s.plain.varTypes C.prog) (ds ++ gs)).all (· ≤ reachBytes) = true → X W args → W.ShapedOpen C.prog →
   Calls C.prog f args W fun e W' => ∃ v, e = .returned v ∧ s.post enc C.prog fn apart fresh handsOn again W args v W') :
  ReturnsInHanded a C os f .any (fun w args => (s.pre enc C.prog fn conds apart w args ∧ X w args) ∧ sizedMet enc C.prog fn (OpenSpec.ofChange s) apart w args) (s.post enc C.prog fn apart fresh handsOn again) := by
 refine returnsInHanded_of_calls own started noInit witness ?_
 intro w tape i _ hsh _ hok hpre hholds
 obtain ⟨_, _, _, fn', hfn', _, _, _, _, hval⟩ := hok
 have e : fn' = fn := Option.some.inj (hfn'.symm.trans hfn)
 subst e
 obtain ⟨⟨⟨ds, gs, before, hw, hc⟩, hx⟩, hz⟩ := hpre
 have hw' := DataW.Whole.of_heap (w' := w.forCall tape i) (by rfl) hw
 refine (contract (w.forCall tape i) w.heap.size i.args ds gs before hval hw' (hz.weights hw) (hX _ _ _ (by rfl) hx) hsh).mono fun e W' ⟨v, he, hp⟩ => ?_
 subst he
 exact ChangeSpec.post_blind hp
theorem post_of_below {f : Func} {W' : World} {args : Array Value} {v : Value} {ds gs : List (DataW H)} {before pa pv : List MemPlace} (hW : DataW.Whole enc P f.params.toList s.vars apart W args.toList ds gs before) (hres : ∀ (b : Nat) (sp : Nat → Bool) (hd : Bool), DataW.TrodAll enc P W' b sp hd f.resultTypes.toList (v.resultList f.resultTypes.size) (s.fn H (ds ++ gs)).results []) (hargs : ∀ sp : Nat → Bool, (∀ p ∈ before, sp p.block = true) → DataW.TrodAll enc P W' 0 sp true f.params.toList args.toList (s.fn H (ds ++ gs)).args pa) (hvars : ∀ sp : Nat → Bool, (∀ p ∈ before, sp p.block = true) → DataW.TrodVars enc P W' sp s.vars (s.fn H (ds ++ gs)).vars pv) (hps : before = pa ++ pv) (hb : Below W.heap.size W W') (hok : ∀ (j : Nat) (t : TypeId) (r : Value), f.resultTypes[j]? = some t → (v.resultList f.resultTypes.size)[j]? = some r → Value.okWide P W' .any 0 t r) :
  s.post enc P f apart fresh handsOn again W args v W' := by
 have hlt : ∀ p ∈ before, p.block < W.heap.size := fun p hp => hW.lt p hp
 have hold : ∀ p ∈ before, (fun b => decide (b < W.heap.size)) p.block = true := fun p hp => by simpa using hlt p hp
 refine ⟨ds, gs, before, [], pa, pv, hW, hres _ _ _, hargs _ hold, hvars _ hold, World.keptBut_mono (fun p hp => ⟨hp, ?_⟩) (hb.frame (· ∈ before)), fun _ => ?_⟩
 ·rw [hps, List.mem_append] at hp
  exact Or.inr hp
 ·obtain ⟨_, _, _, _, _, hz, hn⟩ := hW
  refine ⟨hok, _, _, ([] ++ pa) ++ pv, ⟨[] ++ pa, pv, trodAll_append (hargs _ (fun _ _ => rfl)) (hres _ _ _), hvars _ (fun _ _ => rfl), rfl, ?_, ?_⟩, ?_⟩
  ·intro b off hp
   have hin : MemPlace.cell b off ∈ before := by rw [hps]; simpa using hp
   rw [hb.frozen (hlt _ hin)]
   exact hz b off hin
  ·intro ha
   have := hn ha
   rw [hps] at this
   simpa using this
  ·intro p hp _
   rw [hps]
   simpa using hp
end
def errD (text : List UInt8) : DataW Unit := .iface "*errors.errorString" (.ptr (.agg [.lit (.string text)]))
theorem laid_parts : ∀ (l : List (String × DataW Unit)) (ps : List MemPlace), DataW.LaidVars P W l ps →
  ∃ pl : List (List MemPlace), ps = pl.flatten ∧ pl.length = l.length ∧ ∀ (i : Nat) (n : String) (d : DataW Unit), l[i]? = some (n, d) →
   ∃ g t cs fuel p, P.globalNamed n = some g ∧ (P.globals[g]?).map (·.type) = some t ∧ W.var? P n = some cs ∧ DataW.trod (fun _ => ()) P W 0 (fun _ => true) false fuel t cs.toList = some (d, p) ∧
    pl[i]? = some (MemPlace.row ⟨g, 0, none⟩ cs.size ++ p)
 | [], ps, h => ⟨[], by simpa [DataW.LaidVars] using h, rfl, fun i n d hi => by simp at hi⟩
 | (n, d) :: r, ps, h => by
  obtain ⟨g, t, cs, fuel, p, q, h1, h2, h3, h4, h5, rfl⟩ := h
  obtain ⟨pl, e1, e2, e3⟩ := laid_parts r q h5
  refine ⟨(MemPlace.row ⟨g, 0, none⟩ cs.size ++ p) :: pl, by rw [List.flatten_cons, ← e1], by simp [e2], fun i n' d' hi => ?_⟩
  cases i with
  | zero =>
   simp only [List.getElem?_cons_zero, Option.some.injEq, Prod.mk.injEq] at hi
   obtain ⟨rfl, rfl⟩ := hi
   exact ⟨g, t, cs, fuel, p, h1, h2, h3, h4, rfl⟩
  | succ i => exact e3 i n' d' (by simpa using hi)
theorem star : "*" ++ "errors.errorString" = "*errors.errorString" := by decide
theorem typeName_err (u : TypeId) (h : Tryz.prog.typeName? 3 u = some "*errors.errorString") : u = 296 :=
 typeName_ptr_named (nm := "errors.errorString") (by rw [star]; kernel_rfl) (by kernel_rfl) (by decide) u (by rw [star]; exact h)
theorem laid_drop : ∀ (k : Nat) (l : List (String × DataW Unit)), laidMet P l W → laidMet P (l.drop k) W
 | 0, l, h => by simpa using h
 | k + 1, [], h => by simpa using h
 | k + 1, x :: r, h => laid_drop k r h.tail
end Go.Proofs.YtckmopailiamlaaGreatDoor

/-! From what a row lists of the package-level variables to single facts on the world: one error at a time. -/
namespace Go.Proofs.YtckmopailiamlaaGreatDoor
set_option maxRecDepth 100000
set_option maxHeartbeats 4000000
open Ieee Go.RowKit AmF AmD AmC Go.ChangeShapes Go.WideShapes Go.ChangeAt
theorem err_cell {l : List (String × DataW Unit)} {W : World} (h : laidMet Tryz.prog l W) (p : Nat) {n : String} {text : List UInt8} {g : Nat} (hl : l[p]? = some (n, errD text)) (hg : Tryz.prog.globalNamed n = some g) (ht : (Tryz.prog.globals[g]?).map (·.type) = some 30) :
  ∃ a, W.cell? ⟨g, 0, none⟩ = some (.iface 296 (.pointer (some a))) := by
 obtain ⟨ps, hv, hnd, hrows⟩ := h
 obtain ⟨pl, e1, e2, e3⟩ := laid_parts l ps hv
 obtain ⟨g', t, cs, fuel, p', h1, h2, h3, h4, h5⟩ := e3 _ _ _ hl
 obtain rfl := Option.some.inj (hg.symm.trans h1)
 obtain rfl := Option.some.inj (ht.symm.trans h2)
 have hmem : ∀ x ∈ MemPlace.row ⟨g, 0, none⟩ cs.size ++ p', x ∈ ps := by
  intro x hx
  rw [e1]
  exact List.mem_flatten.2 ⟨_, List.mem_of_getElem? h5, hx⟩
 obtain ⟨l0⟩ := cs
 have ok0 : ∀ u v, l0 = [.iface u v] → Value.okWide Tryz.prog W .any 0 u v := fun u v e => by
  subst e
  exact (hrows g 0 (hmem _ (by simp [MemPlace.row]))).2 u v (by simpa using World.var?_cell hg h3 0)
 obtain ⟨a0, s0, rfl, hc0, hs0, hz0, rfl⟩ := errorString_of_trod Tryz.underlying30 typeName_err Tryz.underlying296 Tryz.underlying335 rfl rfl Tryz.underlying9 (by kernel_rfl) (by kernel_rfl) h4 ok0
 exact ⟨a0, by simpa using World.var?_cell hg h3 0⟩
def pickE (W : World) (k : Nat) : Addr := match W.cell? ⟨gE k, 0, none⟩ with
 | some (.iface _ (.pointer (some a))) => a
 | _ => default
end Go.Proofs.YtckmopailiamlaaGreatDoor
