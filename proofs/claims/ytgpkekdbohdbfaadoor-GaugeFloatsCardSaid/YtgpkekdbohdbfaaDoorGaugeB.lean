/- gauge.Text and the reference's text by their contracts. -/
import Derived.Test.YtgpkekdbohdbfaaDoorGaugeA
import Derived.Test.YtgpkekdbohdbfaaDoorGaugeP
import Derived.Test.YtgpkekdbohdbfaaDoorFloatM
import Derived.Test.YtgpkekdbohdbfaaDoorDecU
import Derived.Test.YtgpkekdbohdbfaaDoorTexts
import Derived.Test.YtgpkekdbohdbfaaDoorFigures
import Derived.Test.YtgpkekdbohdbfaaDoorShelf
import Derived.Test.YtgpkekdbohdbfaaDoorHexP
import Derived.BigQuiet
import Derived.Deep.QuietTactic
import Derived.Lib.AppendIntMem
import Derived.Lib.ItoaMem
import Derived.Lib.Repeat
namespace Go.Proofs.YtgpkekdbohdbfaaDoor
open Go.RowKit AmF AmD

theorem bapp (a b : ByteArray) : (a ++ b).data.toList = a.data.toList ++ b.data.toList := by simp

/-- thousandths -/
def times (a : Nat) : Nat := (Ieee.double.mul a 4652007308841189376).getD 0
theorem times_low {a : Nat} (h : a < 4786511204640096256) : Ieee.double.mul a 4652007308841189376 = some (times a) ∧ Low (times a) := by
  obtain ⟨t, h1, h2⟩ := mul_low h
  have : times a = t := by unfold times; rw [h1]; rfl
  rw [this]
  exact ⟨h1, h2⟩
theorem rounded_le {t : Nat} (h : Low t) : rounded t ≤ 1125899906842625 := by
  have := (low_facts h).2.2.2.2
  unfold rounded
  split <;> omega
theorem run_mul1000 {a : Nat} (h : a < 4786511204640096256) (t : TypeId) (W : World) : (binOp .mul t (.float .f64 a) (.float .f64 4652007308841189376)).run Tryd.prog W = .ok (.float .f64 (times a)) W :=
  run_float_arith W .mul t .f64 a _ _ (times_low h).1
theorem run_round {t : Nat} (h : Low t) (W : World) : (convert 43 3 (.float .f64 (roundW t))).run Tryd.prog W = .ok (.int .i64 (rounded t : Int)) W :=
  run_convert_float_int W 43 3 .f64 .i64 _ _ (by rw [Tryd.underlying43]; rfl) Tryd.underlying3 (by
    have h1 := (round_int h).1
    have h2 := rounded_le h
    unfold floatToIntVal
    have e : (FloatKind.f64.decode (roundW t)).toInt .zero = some (rounded t : Int) := h1
    rw [e]
    simp only
    rw [if_pos (by rw [show IntKind.i64.min = -9223372036854775808 by decide, show IntKind.i64.max = 9223372036854775807 by decide]; omega)])
theorem run_whole {t : Nat} (h : Low t) (W : World) : (convert 43 3 (.float .f64 t)).run Tryd.prog W = .ok (.int .i64 (whole t : Int)) W :=
  run_convert_float_int W 43 3 .f64 .i64 _ _ (by rw [Tryd.underlying43]; rfl) Tryd.underlying3 (by
    have h1 := to_int h
    have h2 := (low_facts h).2.2.2.2
    unfold floatToIntVal
    have e : (FloatKind.f64.decode t).toInt .zero = some (whole t : Int) := h1
    rw [e]
    simp only
    rw [if_pos (by rw [show IntKind.i64.min = -9223372036854775808 by decide, show IntKind.i64.max = 9223372036854775807 by decide]; omega)])
/-- a sign -/
def sgnT (s : Bool) : List UInt8 := if s then [45] else []
/-- a float's text -/
def textF (x : Nat) : List UInt8 :=
  if nanB x then [110, 97, 110] else if infS false x then [43, 105, 110, 102] else if infS true x then [45, 105, 110, 102]
  else if 4786511204640096256 ≤ rung x then [126] else sgnT (sgn x) ++ milli (rounded (times (rung x)))
theorem nan_rung (x : Nat) : nanB (rung x) = nanB x := by
  unfold nanB
  have : rung (rung x) = rung x := Nat.mod_eq_of_lt (Nat.mod_lt _ (by decide))
  rw [this]
theorem key_rung (x : Nat) : key (rung x) = (rung x : Int) := by
  have h : rung x < 9223372036854775808 := Nat.mod_lt _ (by decide)
  have h1 : rung (rung x) = rung x := Nat.mod_eq_of_lt h
  have h2 : sgn (rung x) = false := by
    unfold sgn
    rw [Nat.div_eq_of_lt h]
    rfl
  unfold key
  rw [h1, h2]
  rfl
theorem key_w12 : key 4786511204640096256 = 4786511204640096256 := by decide
theorem nan_w12 : nanB 4786511204640096256 = false := by decide
theorem itoa_nat (i : Nat) (hi : i < 9223372036854775808) (W : World) (hT : Lib.TabIs Tryd.prog W "internal/strconv.uint64pow10" .u64 Lib.pow10Tab) : Calls Tryd.prog 34 #[.int .i64 (i : Int)] W fun e w' => e = .returned (strV (digits i)) ∧ Below W.heap.size W w' := by
  refine (Tryd.strconv_Itoa (i : Int) (by omega) (by omega) W hT).mono ?_
  rintro e w' ⟨he, k, os, hw⟩
  rw [Lib.itoa_nonneg, decDigits_digits] at he
  exact ⟨he, hw ▸ Lib.below_grow _ W (Nat.le_refl _) k os⟩
theorem repeatL_one : ∀ (c : UInt8) (k : Nat), Lib.repeatL [c] k = List.replicate k c
  | _, 0 => rfl
  | c, k + 1 => by
    have := repeatL_one c k
    unfold Lib.repeatL
    rw [this]
    rfl

set_option maxHeartbeats 1000000 in
theorem gauge_Text_odd (x : Nat) (hx : x < 18446744073709551616) (w : World) (h : nanB x = true ∨ infS false x = true ∨ infS true x = true ∨ 4786511204640096256 ≤ rung x) :
    Calls Tryd.prog 24 #[.float .f64 x] w fun e w' => e = .returned (strV (textF x)) ∧ w = w' := by
  have HN := Lib.hid (fun (W : World) => math_IsNaN x W)
  cases hn : nanB x with
  | true =>
    rw [hn] at HN
    have HV := Lib.hid (show textF x = [110, 97, 110] from by unfold textF; rw [hn]; rfl)
    clear hn h
    go_enter Tryd.func24, Tryd.ntmps24
    go_wp2_with fail
    refine (HN.out _).mono ?_
    rintro e w1 ⟨rfl, rfl⟩
    go_wp2
    go_ret
    exact ⟨ret_val (by rw [HV.out]; rfl), rfl⟩
  | false =>
    rw [hn] at HN
    have HP := Lib.hid (fun (W : World) => math_IsInf_pos x W hn)
    have HM := Lib.hid (fun (W : World) => math_IsInf_neg x hx W hn)
    cases hp : infS false x with
    | true =>
      rw [hp] at HP
      have HV := Lib.hid (show textF x = [43, 105, 110, 102] from by unfold textF; rw [hn, hp]; rfl)
      clear hn hp h
      go_enter Tryd.func24, Tryd.ntmps24
      go_wp2_with fail
      refine (HN.out _).mono ?_
      rintro e w1 ⟨rfl, rfl⟩
      go_wp2_with fail
      refine (HP.out _).mono ?_
      rintro e w1 ⟨rfl, rfl⟩
      go_wp2
      go_ret
      exact ⟨ret_val (by rw [HV.out]; rfl), rfl⟩
    | false =>
      rw [hp] at HP
      cases hm : infS true x with
      | true =>
        rw [hm] at HM
        have HV := Lib.hid (show textF x = [45, 105, 110, 102] from by unfold textF; rw [hn, hp, hm]; rfl)
        clear hn hp hm h
        go_enter Tryd.func24, Tryd.ntmps24
        go_wp2_with fail
        refine (HN.out _).mono ?_
        rintro e w1 ⟨rfl, rfl⟩
        go_wp2_with fail
        refine (HP.out _).mono ?_
        rintro e w1 ⟨rfl, rfl⟩
        go_wp2_with fail
        refine (HM.out _).mono ?_
        rintro e w1 ⟨rfl, rfl⟩
        go_wp2
        go_ret
        exact ⟨ret_val (by rw [HV.out]; rfl), rfl⟩
      | false =>
        rw [hm] at HM
        have hg : 4786511204640096256 ≤ rung x := by
          rcases h with h | h | h | h
          · rw [hn] at h; cases h
          · rw [hp] at h; cases h
          · rw [hm] at h; cases h
          · exact h
        have HV := Lib.hid (show textF x = [126] from by unfold textF; rw [hn, hp, hm, if_pos hg]; rfl)
        have HA := Lib.hid (fun (W : World) => math_Abs x hx W)
        have hnr : nanB (rung x) = false := by rw [nan_rung]; exact hn
        have g1 := gt_key hnr nan_w12
        have g2 := eq_key hnr nan_w12
        rw [key_rung, key_w12] at g1 g2
        obtain ⟨a, ha⟩ : ∃ a, rung x = a := ⟨_, rfl⟩
        rw [ha] at HA hg g1 g2
        by_cases hgt : 4786511204640096256 < a
        · have q1 : (FloatKind.f64.format.order a 4786511204640096256 == some .gt) = true := by rw [g1]; simp; omega
          clear hn hp hm h ha hnr g1 g2 hg hgt
          go_enter Tryd.func24, Tryd.ntmps24
          go_wp2_with fail
          refine (HN.out _).mono ?_
          rintro e w1 ⟨rfl, rfl⟩
          go_wp2_with fail
          refine (HP.out _).mono ?_
          rintro e w1 ⟨rfl, rfl⟩
          go_wp2_with fail
          refine (HM.out _).mono ?_
          rintro e w1 ⟨rfl, rfl⟩
          go_wp2_with fail
          refine (HA.out _).mono ?_
          rintro e w1 ⟨rfl, rfl⟩
          go_wp2
          go_ret
          exact ⟨ret_val (by rw [HV.out]; rfl), rfl⟩
        · have q1 : (FloatKind.f64.format.order a 4786511204640096256 == some .gt) = false := by rw [g1]; simp; omega
          have q2 : (FloatKind.f64.format.order a 4786511204640096256 == some .eq) = true := by rw [g2]; simp; omega
          clear hn hp hm h ha hnr g1 g2 hg hgt
          go_enter Tryd.func24, Tryd.ntmps24
          go_wp2_with fail
          refine (HN.out _).mono ?_
          rintro e w1 ⟨rfl, rfl⟩
          go_wp2_with fail
          refine (HP.out _).mono ?_
          rintro e w1 ⟨rfl, rfl⟩
          go_wp2_with fail
          refine (HM.out _).mono ?_
          rintro e w1 ⟨rfl, rfl⟩
          go_wp2_with fail
          refine (HA.out _).mono ?_
          rintro e w1 ⟨rfl, rfl⟩
          go_wp2
          go_ret
          exact ⟨ret_val (by rw [HV.out]; rfl), rfl⟩
theorem neg_flag (x : Nat) : sgnT (sgn x) = if sgn x then [45] else [] := rfl
theorem pad_len (n : Nat) (h : (digits n).length ≤ 3) : pad4 (digits n) = List.replicate (4 - (digits n).length) 48 ++ digits n := by unfold pad4; rw [if_pos h]
theorem pad_id (n : Nat) (h : ¬ (digits n).length ≤ 3) : pad4 (digits n) = digits n := by unfold pad4; rw [if_neg h]
/-- the cut behind the point -/
theorem cut_milli {z : ByteArray} {n k : Nat} {s : List UInt8} {sg : ByteArray} (hz : z.data.toList = pad4 (digits n)) (hk : z.size = k + 3) (hs : sg.data.toList = s) :
    (sg ++ z.extract 0 k ++ ⟨#[46]⟩ ++ z.extract k z.size).data.toList = s ++ milli n := by
  have hl : z.data.toList.length = z.size := by simp
  rw [bapp, bapp, bapp, ← milli_cut, ← hz, hl, hk, Nat.add_sub_cancel, hs]
  have e1 : (z.extract 0 k).data.toList = z.data.toList.take k := by simp [ByteArray.data_extract]
  have e2 : (z.extract k (k + 3)).data.toList = z.data.toList.drop k := by
    have : z.data.toList.length = k + 3 := by rw [hl, hk]
    simp [ByteArray.data_extract]
    rw [List.take_of_length_le (by simp; omega)]
  rw [e1, e2]
  simp

set_option maxHeartbeats 2000000 in
theorem gauge_Text_plain (x : Nat) (hx : x < 18446744073709551616) (w : World) (hT : Lib.TabIs Tryd.prog w "internal/strconv.uint64pow10" .u64 Lib.pow10Tab)
    (hn : nanB x = false) (hp : infS false x = false) (hm : infS true x = false) (hg : rung x < 4786511204640096256) :
    Calls Tryd.prog 24 #[.float .f64 x] w fun e w' => e = .returned (strV (textF x)) ∧ Below w.heap.size w w' := by
  have HN := Lib.hid (fun (W : World) => by have := math_IsNaN x W; rw [hn] at this; exact this)
  have HP := Lib.hid (fun (W : World) => by have := math_IsInf_pos x W hn; rw [hp] at this; exact this)
  have HM := Lib.hid (fun (W : World) => by have := math_IsInf_neg x hx W hn; rw [hm] at this; exact this)
  have HA := Lib.hid (fun (W : World) => math_Abs x hx W)
  have HS := Lib.hid (fun (W : World) => math_Signbit x hx W)
  have HV := Lib.hid (show textF x = sgnT (sgn x) ++ milli (rounded (times (rung x))) from by unfold textF; rw [hn, hp, hm]; simp only [Bool.false_eq_true, if_false]; rw [if_neg (by omega)])
  have hnr : nanB (rung x) = false := by rw [nan_rung]; exact hn
  have g1 := gt_key hnr nan_w12
  have g2 := eq_key hnr nan_w12
  rw [key_rung, key_w12] at g1 g2
  have hlow := (times_low hg).2
  have hmul := run_mul1000 hg
  obtain ⟨a, ha⟩ : ∃ a, rung x = a := ⟨_, rfl⟩
  rw [ha] at HA g1 g2 HV hlow hmul hg
  have q1 : (FloatKind.f64.format.order a 4786511204640096256 == some .gt) = false := by rw [g1]; simp; omega
  have q2 : (FloatKind.f64.format.order a 4786511204640096256 == some .eq) = false := by rw [g2]; simp; omega
  obtain ⟨t, ht⟩ : ∃ t, times a = t := ⟨_, rfl⟩
  rw [ht] at HV hlow hmul
  have HR := Lib.hid (fun (W : World) => math_Round_low t hlow W)
  have hcv := run_round hlow
  have hrl := rounded_le hlow
  obtain ⟨n, hnn⟩ : ∃ n, rounded t = n := ⟨_, rfl⟩
  rw [hnn] at HV hcv hrl
  obtain ⟨z, hz⟩ : ∃ z : ByteArray, (⟨(digits n).toArray⟩ : ByteArray) = z := ⟨_, rfl⟩
  have HI := Lib.hid (fun (W : World) (hW : Lib.TabIs Tryd.prog W "internal/strconv.uint64pow10" .u64 Lib.pow10Tab) => show Calls Tryd.prog 34 #[.int .i64 (n : Int)] W (fun e w' => e = .returned (.string z) ∧ Below W.heap.size W w') from by have := itoa_nat n (by omega) W hW; unfold strV at this; rw [hz] at this; exact this)
  have hzl : z.size = (digits n).length := by rw [← hz]; show (digits n).toArray.size = _; simp
  have hz0 : 0 < z.size := by rw [hzl]; exact List.length_pos_iff.2 (digits_ne n)
  have hz20 : z.size ≤ 20 := by
    have := digits_length 18 n (by have e : (10 : Nat) ^ (18 + 1) = 10000000000000000000 := by decide
                                   omega)
    omega
  have HZ := Lib.hid (show z.data.toList = digits n from by rw [← hz])
  have HRep := Lib.hid (fun (c : Nat) (W : World) (hc : c ≤ 4) => show Calls Tryd.prog 51 #[.string ⟨#[48]⟩, .int .i64 (c : Int)] W (fun e w' => e = .returned (.string ⟨(List.replicate c 48).toArray⟩) ∧ Below W.heap.size W w') from by
    have := Tryd.strings_Repeat ⟨#[48]⟩ c W (by omega) (by show 1 * c ≤ _; omega)
    rw [repeatL_one] at this
    exact this)
  rw [hzl] at hz0 hz20
  have HZL := Lib.hid hzl
  have HTab := Lib.hid hT
  have HZ20 := Lib.hid (show z.size ≤ 20 from by omega)
  clear hn hp hm hnr g1 g2 hlow ha ht hnn hz hzl hT hrl hg hz0 hz20
  cases hsg : sgn x with
  | true =>
    rw [hsg] at HS HV
    clear hsg
    go_enter Tryd.func24, Tryd.ntmps24
    go_wp2_with fail
    refine (HN.out _).mono ?_
    rintro e w1 ⟨rfl, rfl⟩
    go_wp2_with fail
    refine (HP.out _).mono ?_
    rintro e w1 ⟨rfl, rfl⟩
    go_wp2_with fail
    refine (HM.out _).mono ?_
    rintro e w1 ⟨rfl, rfl⟩
    go_wp2_with fail
    refine (HA.out _).mono ?_
    rintro e w1 ⟨rfl, rfl⟩
    go_wp2_with fail
    refine (HS.out _).mono ?_
    rintro e w1 ⟨rfl, rfl⟩
    go_upto_region 12 with fail
    go_wp2_with fail
    refine (HA.out _).mono ?_
    rintro e w1 ⟨rfl, rfl⟩
    go_wp2_with fail
    refine (HR.out _).mono ?_
    rintro e w1 ⟨rfl, rfl⟩
    go_wp2_with fail
    refine (HI.out _ HTab.out).mono ?_
    rintro e w1 ⟨rfl, hb1⟩
    by_cases h3 : (digits n).length ≤ 3
    · have hz3 : (z.size : Int) ≤ 3 := by have := HZL.out; omega
      have hz1 : (1 : Int) ≤ (z.size : Int) := by have := HZL.out; have := List.length_pos_iff.2 (digits_ne n); omega
      have hc4 : (4 : Int) - (z.size : Int) = ((4 - z.size : Nat) : Int) := by omega
      have HC4 := Lib.hid hc4
      have HPad := Lib.hid (pad_len n h3)
      clear h3 hc4
      go_wp2_with fail
      rw [HC4.out]
      refine (HRep.out _ _ (by omega)).mono ?_
      rintro e w2 ⟨rfl, hb2⟩
      obtain ⟨r, hr⟩ : ∃ r : ByteArray, (⟨(List.replicate (4 - z.size) 48).toArray⟩ : ByteArray) = r := ⟨_, rfl⟩
      rw [hr]
      obtain ⟨y, hy⟩ : ∃ y : ByteArray, r ++ z = y := ⟨_, rfl⟩
      have hys : y.size = 1 + 3 := by
        have e1 : r.size = 4 - z.size := by rw [← hr]; show (List.replicate (4 - z.size) 48).toArray.size = _; simp
        have e2 := congrArg ByteArray.size hy
        rw [ByteArray.size_append, e1] at e2
        omega
      have hyd : y.data.toList = pad4 (digits n) := by
        rw [HPad.out, ← hy, bapp, HZ.out, ← HZL.out, ← hr]
      have HY := Lib.hid hy
      have HCut := Lib.hid (cut_milli (k := 1) (sg := ⟨#[45]⟩) (s := sgnT true) hyd hys rfl)
      have HYS := Lib.hid hys
      have hy4 : (y.size : Int) = 4 := by omega
      have HY4 := Lib.hid hy4
      have hrs : r.size ≤ 4 := by rw [← hr]; show (List.replicate (4 - z.size) 48).toArray.size ≤ _; simp
      have hz20 := HZ20.out
      clear hr hys hyd
      go_wp2_with fail
      go_quiet (fail)
      go_wp2
      go_ret
      exact ⟨ret_val (by rw [HV.out, ← HCut.out, strV_data]; rfl), below_drewN (hb1.trans (hb2.mono hb1.size)) _⟩
    · have hz3 : ¬ (z.size : Int) ≤ 3 := by have := HZL.out; omega
      obtain ⟨k, hk⟩ : ∃ k, z.size = k + 3 := ⟨z.size - 3, by have := HZL.out; omega⟩
      have hyd : z.data.toList = pad4 (digits n) := by rw [pad_id n h3]; exact HZ.out
      have HCut := Lib.hid (cut_milli (sg := ⟨#[45]⟩) (s := sgnT true) hyd hk rfl)
      have hk3 : (z.size : Int) - 3 = (k : Int) := by omega
      have hk0 : (k : Int) ≤ (z.size : Int) := by omega
      have hz20 := HZ20.out
      clear h3 hk hyd
      go_wp2_with fail
      go_quiet (fail)
      go_wp2
      go_ret
      exact ⟨ret_val (by rw [HV.out, ← HCut.out, strV_data]; rfl), below_drewN hb1 _⟩
  | false =>
    rw [hsg] at HS HV
    clear hsg
    go_enter Tryd.func24, Tryd.ntmps24
    go_wp2_with fail
    refine (HN.out _).mono ?_
    rintro e w1 ⟨rfl, rfl⟩
    go_wp2_with fail
    refine (HP.out _).mono ?_
    rintro e w1 ⟨rfl, rfl⟩
    go_wp2_with fail
    refine (HM.out _).mono ?_
    rintro e w1 ⟨rfl, rfl⟩
    go_wp2_with fail
    refine (HA.out _).mono ?_
    rintro e w1 ⟨rfl, rfl⟩
    go_wp2_with fail
    refine (HS.out _).mono ?_
    rintro e w1 ⟨rfl, rfl⟩
    go_upto_region 12 with fail
    go_wp2_with fail
    refine (HA.out _).mono ?_
    rintro e w1 ⟨rfl, rfl⟩
    go_wp2_with fail
    refine (HR.out _).mono ?_
    rintro e w1 ⟨rfl, rfl⟩
    go_wp2_with fail
    refine (HI.out _ HTab.out).mono ?_
    rintro e w1 ⟨rfl, hb1⟩
    by_cases h3 : (digits n).length ≤ 3
    · have hz3 : (z.size : Int) ≤ 3 := by have := HZL.out; omega
      have hz1 : (1 : Int) ≤ (z.size : Int) := by have := HZL.out; have := List.length_pos_iff.2 (digits_ne n); omega
      have hc4 : (4 : Int) - (z.size : Int) = ((4 - z.size : Nat) : Int) := by omega
      have HC4 := Lib.hid hc4
      have HPad := Lib.hid (pad_len n h3)
      clear h3 hc4
      go_wp2_with fail
      rw [HC4.out]
      refine (HRep.out _ _ (by omega)).mono ?_
      rintro e w2 ⟨rfl, hb2⟩
      obtain ⟨r, hr⟩ : ∃ r : ByteArray, (⟨(List.replicate (4 - z.size) 48).toArray⟩ : ByteArray) = r := ⟨_, rfl⟩
      rw [hr]
      obtain ⟨y, hy⟩ : ∃ y : ByteArray, r ++ z = y := ⟨_, rfl⟩
      have hys : y.size = 1 + 3 := by
        have e1 : r.size = 4 - z.size := by rw [← hr]; show (List.replicate (4 - z.size) 48).toArray.size = _; simp
        have e2 := congrArg ByteArray.size hy
        rw [ByteArray.size_append, e1] at e2
        omega
      have hyd : y.data.toList = pad4 (digits n) := by
        rw [HPad.out, ← hy, bapp, HZ.out, ← HZL.out, ← hr]
      have HY := Lib.hid hy
      have HCut := Lib.hid (cut_milli (k := 1) (sg := ⟨#[]⟩) (s := sgnT false) hyd hys rfl)
      have HYS := Lib.hid hys
      have hy4 : (y.size : Int) = 4 := by omega
      have HY4 := Lib.hid hy4
      have hrs : r.size ≤ 4 := by rw [← hr]; show (List.replicate (4 - z.size) 48).toArray.size ≤ _; simp
      have hz20 := HZ20.out
      clear hr hys hyd
      go_wp2_with fail
      go_quiet (fail)
      go_wp2
      go_ret
      exact ⟨ret_val (by rw [HV.out, ← HCut.out, strV_data]; rfl), below_drewN (hb1.trans (hb2.mono hb1.size)) _⟩
    · have hz3 : ¬ (z.size : Int) ≤ 3 := by have := HZL.out; omega
      obtain ⟨k, hk⟩ : ∃ k, z.size = k + 3 := ⟨z.size - 3, by have := HZL.out; omega⟩
      have hyd : z.data.toList = pad4 (digits n) := by rw [pad_id n h3]; exact HZ.out
      have HCut := Lib.hid (cut_milli (sg := ⟨#[]⟩) (s := sgnT false) hyd hk rfl)
      have hk3 : (z.size : Int) - 3 = (k : Int) := by omega
      have hk0 : (k : Int) ≤ (z.size : Int) := by omega
      have hz20 := HZ20.out
      clear h3 hk hyd
      go_wp2_with fail
      go_quiet (fail)
      go_wp2
      go_ret
      exact ⟨ret_val (by rw [HV.out, ← HCut.out, strV_data]; rfl), below_drewN hb1 _⟩
end Go.Proofs.YtgpkekdbohdbfaaDoor
