/- gauge.Ratio, gauge.Clamp, and the reference's amount and text of a float, by their contracts. -/
import Derived.Test.YtgpkekdbohdbfaaDoorGaugeD
namespace Go.Proofs.YtgpkekdbohdbfaaDoor
open Go.RowKit AmF AmD

/-- a quotient: what IEEE 754 says, or some NaN -/
def QuoIs (q : Option Nat) (r : Nat) : Prop := match q with | some x => r = x | none => nanB r = true
theorem quo_same {q : Option Nat} {r s : Nat} (h1 : QuoIs q r) (h2 : QuoIs q s) : SameF r s := by
  cases q with
  | some x => exact .inl (h1.trans h2.symm)
  | none => exact .inr ⟨h1, h2⟩
theorem nan_cut (x y t : Nat) : nanB (Question.cut (.nanBits .f64 x y) t) = true := by
  have e63 : (2 : Nat) ^ 63 = 9223372036854775808 := by decide
  have e52 : (2 : Nat) ^ 52 = 4503599627370496 := by decide
  have h1 := Nat.mod_lt (t / 2) (show 0 < 4503599627370496 - 1 by decide)
  show decide (9218868437227405312 < (t % 2 * 2 ^ 63 + 9218868437227405312 + 1 + t / 2 % (2 ^ 52 - 1)) % 9223372036854775808) = true
  rw [e63, e52, decide_eq_true_eq]
  generalize t / 2 % (4503599627370496 - 1) = z at *
  have h2 : t % 2 = 0 ∨ t % 2 = 1 := by omega
  rcases h2 with h2 | h2 <;> rw [h2] <;> omega
theorem run_quo (x y : Nat) (t : TypeId) (W : World) : ∃ r W', (binOp .quo t (.float .f64 x) (.float .f64 y)).run Tryd.prog W = .ok (.float .f64 r) W' ∧ QuoIs (Ieee.double.div x y) r ∧ Below W.heap.size W W' := by
  cases h : Ieee.double.div x y with
  | some r => exact ⟨r, W, run_float_arith W .quo t .f64 x y r h, rfl, Below.refl _ _⟩
  | none =>
    refine ⟨Question.cut (.nanBits .f64 x y) (W.tape W.drawn (.nanBits .f64 x y)), W.drew, ?_, nan_cut _ _ _, (Below.refl _ _).drew⟩
    have e : (FloatKind.f64.format.div x y) = none := h
    have hf : (Question.nanBits .f64 x y).forced = false := rfl
    simp [binOp, Op.floatArith, e, hf]
theorem bare_amount {x : Nat} : IntKind.u64.wrap ((x : Int) * 2) / 2 = (rung x : Int) := by
  have e : IntKind.u64.wrap ((x : Int) * 2) = ((x : Int) * 2) % 18446744073709551616 := by
    unfold IntKind.wrap
    simp [IntKind.bits, IntKind.signed]
  rw [e]
  unfold rung
  omega
theorem bare_sign {x : Nat} (hx : x < 18446744073709551616) : ((x : Int) / 9223372036854775808 == 1) = sgn x := by
  unfold sgn
  rw [Bool.eq_iff_iff]
  simp
  omega
theorem ref35_Bare (x : Nat) (hx : x < 18446744073709551616) (w : World) : Calls Tryd.prog 16 #[.int .u64 (x : Int)] w fun e w' => e = .returned (.tuple #[.int .u64 (rung x : Int), .bool (sgn x)]) ∧ w = w' := by
  have h1 := Lib.hid (bare_amount (x := x))
  have h2 := Lib.hid (bare_sign hx)
  go_enter Tryd.func16, Tryd.ntmps16
  go_wp2
  rw [h1.out, h2.out]
  go_ret2
  exact ⟨rfl, rfl⟩

/-- gauge.Ratio: what IEEE 754 says, or some NaN -/
theorem gauge_Ratio (a b : Int) (w : World) :
    Calls Tryd.prog 22 #[.int .i64 a, .int .i64 b] w fun e w' => ∃ r, QuoIs (Ieee.double.div (floatOfInt .f64 a) (floatOfInt .f64 b)) r ∧ e = .returned (.float .f64 r) ∧ Below w.heap.size w w' := by
  have hca := run_int_float a
  have hcb := run_int_float b
  obtain ⟨r, W', hop, hq, hb⟩ := run_quo (floatOfInt .f64 a) (floatOfInt .f64 b) 43 w
  have HQ := Lib.hid hq
  clear hq
  go_enter Tryd.func22, Tryd.ntmps22
  go_wp2
  go_ret
  exact ⟨r, HQ.out, rfl, hb⟩

/-! ### gauge.Clamp -/
def one64 : Nat := 4607182418800017408
def clampG (f : Nat) : Nat := if nanB f then f else if key f ≤ 0 then 0 else pick f 4607182418800017408
/-- the statement's way -/
def clampL (f : Nat) (b1 b2 : Bool) : Nat := if b2 then 4607182418800017408 else if b1 then 0 else f
theorem key_one : key 4607182418800017408 = 4607182418800017408 := by decide
theorem nan_one : nanB 4607182418800017408 = false := by decide
theorem key_0 : key 0 = 0 := by decide
def le0 (f : Nat) : Bool := FloatKind.f64.format.order f 0 == some .lt || FloatKind.f64.format.order f 0 == some .eq
def gt1 (f : Nat) : Bool := FloatKind.f64.format.order f 4607182418800017408 == some .gt
theorem le0_key {f : Nat} (h : nanB f = false) : le0 f = decide (key f ≤ 0) := by
  unfold le0
  rw [lt_key h nan_zero, eq_key h nan_zero, key_0, Bool.eq_iff_iff]
  simp
  omega
theorem gt1_key {f : Nat} (h : nanB f = false) : gt1 f = decide (4607182418800017408 < key f) := by
  unfold gt1
  rw [gt_key h nan_one, key_one]
theorem clamp_same {f : Nat} (hf : f < 18446744073709551616) : SameF (clampG f) (clampL f (le0 f) (gt1 f)) := by
  cases hn : nanB f with
  | true =>
    left
    have e1 : le0 f = false := by unfold le0; rw [none_key (.inl hn)]; rfl
    have e2 : gt1 f = false := by unfold gt1; rw [none_key (.inl hn)]; rfl
    unfold clampG clampL
    rw [e1, e2, hn]
    rfl
  | false =>
    left
    rw [le0_key hn, gt1_key hn]
    unfold clampG clampL
    rw [hn]
    simp only [Bool.false_eq_true, if_false, decide_eq_true_eq]
    by_cases h0 : key f ≤ 0
    · rw [if_pos h0, if_neg (by omega), if_pos h0]
    · rw [if_neg h0, if_neg h0, pick_less (by decide) hf nan_one hn]
      have e : lessB 4607182418800017408 f = decide (4607182418800017408 < key f) := by
        unfold lessB
        rw [key_one]
        have : decide (rung 4607182418800017408 = 0) = false := by decide
        rw [this]
        simp
      rw [e]
      simp only [decide_eq_true_eq]
theorem gauge_Clamp (f : Nat) (w : World) : Calls Tryd.prog 23 #[.float .f64 f] w fun e w' => e = .returned (.float .f64 (clampG f)) ∧ w = w' := by
  have HN := Lib.hid (fun (W : World) => math_IsNaN f W)
  cases hn : nanB f with
  | true =>
    rw [hn] at HN
    have HV := Lib.hid (show clampG f = f from by unfold clampG; rw [hn]; rfl)
    clear hn
    go_enter Tryd.func23, Tryd.ntmps23
    go_wp2_with fail
    refine (HN.out _).mono ?_
    rintro e w1 ⟨rfl, rfl⟩
    go_wp2
    go_ret
    exact ⟨ret_val (by rw [HV.out]; rfl), rfl⟩
  | false =>
    rw [hn] at HN
    have l1 := lt_key hn nan_zero
    have l2 := eq_key hn nan_zero
    rw [key_0] at l1 l2
    by_cases hlt : key f < 0
    · have q1 : (FloatKind.f64.format.order f 0 == some .lt) = true := by rw [l1]; simpa using hlt
      have HV := Lib.hid (show clampG f = 0 from by unfold clampG; rw [hn]; simp only [Bool.false_eq_true, if_false]; rw [if_pos (by omega)])
      clear hn l1 l2 hlt
      go_enter Tryd.func23, Tryd.ntmps23
      go_wp2_with fail
      refine (HN.out _).mono ?_
      rintro e w1 ⟨rfl, rfl⟩
      go_wp2
      go_ret
      exact ⟨ret_val (by rw [HV.out]; rfl), rfl⟩
    · have q1 : (FloatKind.f64.format.order f 0 == some .lt) = false := by rw [l1]; simpa using hlt
      by_cases heq : key f = 0
      · have q2 : (FloatKind.f64.format.order f 0 == some .eq) = true := by rw [l2]; simpa using heq
        have HV := Lib.hid (show clampG f = 0 from by unfold clampG; rw [hn]; simp only [Bool.false_eq_true, if_false]; rw [if_pos (by omega)])
        clear hn l1 l2 hlt heq
        go_enter Tryd.func23, Tryd.ntmps23
        go_wp2_with fail
        refine (HN.out _).mono ?_
        rintro e w1 ⟨rfl, rfl⟩
        go_wp2
        go_ret
        exact ⟨ret_val (by rw [HV.out]; rfl), rfl⟩
      · have q2 : (FloatKind.f64.format.order f 0 == some .eq) = false := by rw [l2]; simpa using heq
        have HV := Lib.hid (show clampG f = pick f 4607182418800017408 from by unfold clampG; rw [hn]; simp only [Bool.false_eq_true, if_false]; rw [if_neg (by omega)])
        have HM := Lib.hid (fun (W : World) => math_Min f 4607182418800017408 W)
        clear hn l1 l2 hlt heq
        go_enter Tryd.func23, Tryd.ntmps23
        go_wp2_with fail
        refine (HN.out _).mono ?_
        rintro e w1 ⟨rfl, rfl⟩
        go_wp2_with fail
        refine (HM.out _).mono ?_
        rintro e w1 ⟨rfl, rfl⟩
        go_wp2
        go_ret
        exact ⟨ret_val (by rw [HV.out]; rfl), rfl⟩

/-! ### the reference's text -/
theorem float_whole (n : Nat) : floatOfInt .f64 (n : Int) = Ieee.double.nearest false n 0 := by
  unfold floatOfInt FloatKind.nearest FloatKind.encode
  have e : decide ((n : Int) < 0) = false := by simp
  rw [e]
  rfl
theorem str_val {x : ByteArray} {l : List UInt8} (h : x.data.toList = l) : Value.string x = strV l := by rw [← h, strV_data]
theorem digit_one (d : Nat) (h : d < 10) : digits d = [dg d] := digits_small d h
/-- a string of one figure -/
theorem figure {n : Nat} {b : ByteArray} (hn : n < 10) (h : Says (digits n) b) : b.size = 1 ∧ b.data.toList = [dg n] := by
  unfold Says at h
  rw [digits_small n hn] at h
  refine ⟨?_, h⟩
  have : b.data.toList.length = b.size := by simp
  rw [h] at this
  exact this.symm

set_option maxHeartbeats 2000000 in
theorem ref35_Text (a : Nat) (ha : a < 4786511204640096256) (s : Bool) (w : World) :
    Calls Tryd.prog 20 #[.float .f64 a, .bool s] w fun e w' => e = .returned (strV (sgnT s ++ milli (rounded (times a)))) ∧ Below w.heap.size w w' := by
  have hlow := (times_low ha).2
  have hmul := run_mul1000 ha
  obtain ⟨t, ht⟩ : ∃ t, times a = t := ⟨_, rfl⟩
  rw [ht] at hlow hmul ⊢
  have hwh := run_whole hlow
  have hwl := (low_facts hlow).2.2.2.2
  obtain ⟨r, hs1, hs2⟩ := sub_half hlow
  have hsub : ∀ T W, (binOp .sub T (.float .f64 t) (.float .f64 (floatOfInt .f64 (whole t : Int)))).run Tryd.prog W = .ok (.float .f64 r) W := fun T W => run_float_arith W .sub T .f64 _ _ r (by rw [float_whole]; exact hs1)
  have hcv := run_int_float (whole t : Int)
  obtain ⟨N, hN⟩ : ∃ N, rounded t = N := ⟨_, rfl⟩
  have hNv : N = whole t + if 2 ^ cutBy t ≤ 2 * left_ t then 1 else 0 := by rw [← hN]; rfl
  have hNl : N ≤ 1125899906842625 := by rw [← hN]; exact rounded_le hlow
  rw [hN]
  obtain ⟨V, hV⟩ : ∃ V, whole t = V := ⟨_, rfl⟩
  rw [hV] at hwh hwl hsub hcv hNv
  have HFi := Lib.hid (fun (n : Nat) (hn : n < 9223372036854775808) (W : World) => num_Figures n hn W)
  obtain ⟨g1, hg1⟩ : ∃ g1, (FloatKind.f64.format.order r 4602678819172646912 == some .gt) = g1 := ⟨_, rfl⟩
  obtain ⟨g2, hg2⟩ : ∃ g2, (FloatKind.f64.format.order r 4602678819172646912 == some .eq) = g2 := ⟨_, rfl⟩
  have hs3 : (g1 || g2) = decide (2 ^ cutBy t ≤ 2 * left_ t) := by rw [← hg1, ← hg2]; exact hs2
  have hup : (g1 || g2) = true → (V : Int) + 1 = (N : Int) := fun h => by
    rw [h] at hs3
    have := of_decide_eq_true hs3.symm
    rw [if_pos this] at hNv
    omega
  have hdn : (g1 || g2) = false → V = N := fun h => by
    rw [h] at hs3
    have := of_decide_eq_false hs3.symm
    rw [if_neg this] at hNv
    omega
  have HM := Lib.hid (show milli N = digits (N / 1000) ++ 46 :: tail3 N from rfl)
  clear hlow ht hs1 hs2 hN hNv hV hs3 ha
  have HUp := Lib.hid hup
  have HDn := Lib.hid hdn
  clear hup hdn
  go_enter Tryd.func20, Tryd.ntmps20
  go_upto_if 16 with fail
  go_cut [6] from 8 to 44 (fun v6 wx => v6 = .int .i64 (N : Int) ∧ wx = w)
  case first =>
    cases g1
    · cases g2
      · have e := HDn.out rfl
        subst e
        go_wp2
        go_meet
        case rel => exact ⟨rfl, rfl⟩
      · have e := HUp.out rfl
        go_wp2
        go_meet
        case rel => exact ⟨rfl, rfl⟩
    · have e := HUp.out rfl
      cases g2
      · go_wp2
        go_meet
        case rel => exact ⟨rfl, rfl⟩
      · go_wp2
        go_meet
        case rel => exact ⟨rfl, rfl⟩
  case rest =>
    obtain ⟨rfl, rfl⟩ := hcut
    have hN0 : (N : Int) ≤ 1125899906842625 := by omega
    clear hwl hg1 hg2
    go_wp2_with fail
    rw [show ((N : Int) % 10) = ((N % 10 : Nat) : Int) from by omega]
    refine (HFi.out _ (by omega) _).mono ?_
    rintro e w1 ⟨d1, hd1, rfl, hb1⟩
    obtain ⟨z1, e1⟩ := figure (Nat.mod_lt N (by omega)) hd1
    have E1 := Lib.hid e1
    clear hd1 e1
    go_wp2_with fail
    rw [show ((N : Int) / 10 % 10) = ((N / 10 % 10 : Nat) : Int) from by omega]
    refine (HFi.out _ (by omega) _).mono ?_
    rintro e w2 ⟨d2, hd2, rfl, hb2⟩
    obtain ⟨z2, e2⟩ := figure (Nat.mod_lt (N / 10) (by omega)) hd2
    have E2 := Lib.hid e2
    clear hd2 e2
    go_wp2_with fail
    rw [show ((N : Int) / 100 % 10) = ((N / 100 % 10 : Nat) : Int) from by omega]
    refine (HFi.out _ (by omega) _).mono ?_
    rintro e w3 ⟨d3, hd3, rfl, hb3⟩
    obtain ⟨z3, e3⟩ := figure (Nat.mod_lt (N / 100) (by omega)) hd3
    have E3 := Lib.hid e3
    clear hd3 e3
    go_wp2_with fail
    rw [show ((N : Int) / 1000) = ((N / 1000 : Nat) : Int) from by omega]
    refine (HFi.out _ (by omega) _).mono ?_
    rintro e w4 ⟨d4, hd4, rfl, hb4⟩
    have z4 : d4.size ≤ 20 := by
      have h1 := digits_length 18 (N / 1000) (by have e : (10 : Nat) ^ (18 + 1) = 10000000000000000000 := by decide
                                                 omega)
      have h2 : d4.data.toList.length = d4.size := by simp
      unfold Says at hd4
      rw [hd4] at h2
      omega
    have E4 := Lib.hid hd4
    clear hd4 z1 z2 z3
    have z1 : d1.size ≤ 1 := by have := congrArg List.length E1.out; simp at this; omega
    have z2 : d2.size ≤ 1 := by have := congrArg List.length E2.out; simp at this; omega
    have z3 : d3.size ≤ 1 := by have := congrArg List.length E3.out; simp at this; omega
    have hbb := hb1.trans ((hb2.trans ((hb3.trans (hb4.mono hb3.size)).mono hb2.size)).mono hb1.size)
    have HD := Lib.hid (show (d4 ++ ⟨#[46]⟩ ++ (d3 ++ (d2 ++ (d1 ++ ⟨#[]⟩))) : ByteArray).data.toList = milli N from by
      have e4 : d4.data.toList = digits (N / 1000) := E4.out
      rw [HM.out]
      simp only [bapp, E1.out, E2.out, E3.out, e4, tail3]
      simp)
    cases s
    · have hv : Value.string (d4 ++ (⟨#[46]⟩ : ByteArray) ++ (d3 ++ (d2 ++ (d1 ++ (⟨#[]⟩ : ByteArray))))) = strV (sgnT false ++ milli N) := str_val (by rw [HD.out]; rfl)
      have HV := Lib.hid hv
      clear hv
      go_wp2
      go_ret
      exact ⟨ret_val HV.out, hbb⟩
    · have hv : Value.string ((⟨#[45]⟩ : ByteArray) ++ (d4 ++ (⟨#[46]⟩ : ByteArray) ++ (d3 ++ (d2 ++ (d1 ++ (⟨#[]⟩ : ByteArray)))))) = strV (sgnT true ++ milli N) := str_val (by rw [bapp, HD.out]; rfl)
      have HV := Lib.hid hv
      clear hv
      go_wp2
      go_ret
      exact ⟨ret_val HV.out, hbb⟩
end Go.Proofs.YtgpkekdbohdbfaaDoor
