/- Rows of numbers, of texts, and of rows of texts, in memory of the call's own. -/
import Derived.Test.YtckmopailiamlaaGreatDoorProg
import Derived.Test.YtckmopailiamlaaGreatDoorLaneP
import Derived.KernelRfl
import Derived.Test.YtckmopailiamlaaGreatDoorFloatM
import Derived.WalkKit
import Derived.WalkSpells
import Derived.WalkLawsBesides
import Derived.Deep.RegionWith
import Derived.Laws.IdiomStrings
import Derived.Outline
import Derived.Lib.ItoaNum
import Derived.Test.YtckmopailiamlaaGreatDoorShelf
import Derived.BigQuiet
import Derived.Deep.QuietTactic
import Derived.Lib.AppendIntMem
import Derived.Lib.ItoaMem
import Derived.Lib.Repeat
import Derived.Test.YtckmopailiamlaaGreatDoorTabR
import Derived.Deep.Cut
import Derived.Deep.CutRange
namespace Go.Proofs.YtckmopailiamlaaGreatDoor
set_option maxHeartbeats 2000000
open Go.RowKit AmD Go AmF
variable {w w' : World} {b base n : Nat} {u v v' : Value}
abbrev Bts := List UInt8
def strV (l : Bts) : Value := .string ⟨l.toArray⟩
theorem strV_data (s : ByteArray) : strV s.data.toList = .string s := by unfold strV; congr 1
def IntsOwn (w : World) (base : Nat) (v : Value) (l : List Nat) : Prop := w.ownsRow base 3 1 v l.length (l.map fun n : Nat => Value.int .i64 (n : Int))
def StrsOwn (w : World) (base : Nat) (v : Value) (l : List Bts) : Prop := w.ownsRow base 9 1 v l.length (l.map strV)
theorem StrsOwn.append {l : List Bts} {s : ByteArray} (h : w.ownsRow base 9 1 v (l.length + 1) (l.map strV ++ [.string s])) : StrsOwn w base v (l ++ [s.data.toList]) := by
 unfold StrsOwn
 rw [List.length_append, List.map_append]
 simpa [strV_data] using h
theorem IntsOwn.append {l : List Nat} (h : w.ownsRow base 3 1 v (l.length + 1) ((l.map fun n : Nat => Value.int .i64 (n : Int)) ++ [.int .i64 (n : Int)])) : IntsOwn w base v (l ++ [n]) := by
 unfold IntsOwn
 rw [List.length_append, List.map_append]
 simpa using h
theorem StrsOwn.new (hb : base ≤ w.heap.size) : StrsOwn (w.alloc (.cells #[] 9)) base (.slice (some ⟨w.heap.size, 0, none⟩) 0 0) [] :=
 World.ownsRow_made w #[] 0 hb (by simp [maxLen]) (by simp)
theorem IntsOwn.alloc {l : List Nat} (h : IntsOwn w base v l) (o : Obj) : IntsOwn (w.alloc o) base v l := World.ownsRow.alloc h o
theorem StrsOwn.alloc {l : List Bts} (h : StrsOwn w base v l) (o : Obj) : StrsOwn (w.alloc o) base v l := World.ownsRow.alloc h o
def lineCells (L : List (Nat × List Bts)) (vs : List Value) : List Value := (List.zipWith (fun (p : Nat × List Bts) u => [Value.int .i64 (p.1 : Int), u]) L vs).flatten
end Go.Proofs.YtckmopailiamlaaGreatDoor

/-! amblernum.Unsigned and words.figures by their contracts. -/
namespace Go.Proofs.YtckmopailiamlaaGreatDoor
set_option maxHeartbeats 2000000
open Go.RowKit AmD Go AmF
def Says (l : List UInt8) (b : ByteArray) : Prop := b.data.toList = l
def TextPost (w : World) (l : List UInt8) (e : Ending) (w' : World) : Prop := ∃ b : ByteArray, Says l b ∧ e = .returned (.string b) ∧ Below w.heap.size w w'
def figC (h : Bool) (c : UInt8) : Bool := if h then isHex c else isDig c
def figs (h : Bool) (l : List UInt8) : Bool := l.all (figC h)
def figR (h : Bool) (l : List UInt8) : Bool := figs h l && !l.isEmpty
end Go.Proofs.YtckmopailiamlaaGreatDoor

/-! Figures of base 16, and of base 10, and what they are read as. No program in sight. -/
namespace Go.Proofs.YtckmopailiamlaaGreatDoor
set_option maxHeartbeats 2000000
open Go.RowKit AmD Go AmF
def hexD (d : Nat) : UInt8 := UInt8.ofNat (if d < 10 then 48 + d else 87 + d)
def hexF : Nat → Nat → List UInt8
 | 0, n => [hexD n]
 | f + 1, n => if n < 16 then [hexD n] else hexF f (n / 16) ++ [hexD (n % 16)]
def hexs (n : Nat) : List UInt8 := hexF 16 n
theorem decDigits_digits (n : Nat) : Lib.decDigits n = digits n := by
 induction n using Nat.strongRecOn with
 | ind n ih =>
  rw [Lib.decDigits]
  by_cases h : n < 10
  ·rw [dif_pos h, digits_small n h]; rfl
  ·rw [dif_neg h, digits_great n h, ih (n / 10) (by omega)]; rfl
end Go.Proofs.YtckmopailiamlaaGreatDoor

/-! gauge.Text and the reference's text by their contracts. -/
namespace Go.Proofs.YtckmopailiamlaaGreatDoor
set_option maxHeartbeats 2000000
open Go.RowKit AmD Go AmF
variable {a t : Nat}
theorem bapp (a b : ByteArray) : (a ++ b).data.toList = a.data.toList ++ b.data.toList := by simp
def times (a : Nat) : Nat := (Ieee.double.mul a 4652007308841189376).getD 0
theorem times_low (h : a < 4786511204640096256) : Ieee.double.mul a 4652007308841189376 = some (times a) ∧ Low (times a) := by
 obtain ⟨t, h1, h2⟩ := mul_low h
 have : times a = t := by unfold times; rw [h1]; rfl
 rw [this]
 exact ⟨h1, h2⟩
theorem rounded_le (h : Low t) : rounded t ≤ 1125899906842625 := by
 have := (low_facts h).2.2.2.2
 unfold rounded
 split <;> omega
theorem run_mul1000 (h : a < 4786511204640096256) (t : TypeId) (W : World) : (binOp .mul t (.float .f64 a) (.float .f64 4652007308841189376)).run Tryz.prog W = .ok (.float .f64 (times a)) W :=
 run_float_arith W .mul t .f64 a _ _ (times_low h).1
theorem run_round (h : Low t) (W : World) : (convert 43 3 (.float .f64 (roundW t))).run Tryz.prog W = .ok (.int .i64 (rounded t : Int)) W :=
 run_convert_float_int W 43 3 .f64 .i64 _ _ (by rw [Tryz.underlying43]; rfl) Tryz.underlying3 (by
  have h1 := (round_int h).1
  have h2 := rounded_le h
  unfold floatToIntVal
  have e : (FloatKind.f64.decode (roundW t)).toInt .zero = some (rounded t : Int) := h1
  rw [e]
  simp only
  rw [if_pos (by rw [show IntKind.i64.min = -9223372036854775808 by decide, show IntKind.i64.max = 9223372036854775807 by decide]; omega)])
def sgnT (s : Bool) : List UInt8 := if s then [45] else []
def textF (x : Nat) : List UInt8 :=
 if nanB x then [110, 97, 110] else if infS false x then [43, 105, 110, 102] else if infS true x then [45, 105, 110, 102]
 else if 4786511204640096256 ≤ rung x then [126] else sgnT (sgn x) ++ milli (rounded (times (rung x)))
theorem nan_rung (x : Nat) : nanB (rung x) = nanB x := by
 unfold nanB
 have : rung (rung x) = rung x := Nat.mod_eq_of_lt (Nat.mod_lt _ (by decide))
 rw [this]
theorem key_rung (x : Nat) : key (rung x) = (rung x : Int) := by
 have h : rung x < 9223372036854775808 := Nat.mod_lt _ (by decide)
 have h1 : rung (rung x) = rung x := Nat.mod_eq_of_lt h
 have h2 : sgn (rung x) = false := by
  unfold sgn
  rw [Nat.div_eq_of_lt h]
  rfl
 unfold key
 rw [h1, h2]
 rfl
theorem key_w12 : key 4786511204640096256 = 4786511204640096256 := by decide
theorem nan_w12 : nanB 4786511204640096256 = false := by decide
theorem itoa_nat (i : Nat) (hi : i < 9223372036854775808) (W : World) (hT : Lib.TabIs Tryz.prog W "internal/strconv.uint64pow10" .u64 Lib.pow10Tab) : Calls Tryz.prog 40 #[.int .i64 (i : Int)] W fun e w' => e = .returned (strV (digits i)) ∧ Below W.heap.size W w' := by
 refine (Tryz.strconv_Itoa (i : Int) (by omega) (by omega) W hT).mono ?_
 rintro e w' ⟨he, k, os, hw⟩
 rw [Lib.itoa_nonneg, decDigits_digits] at he
 exact ⟨he, hw ▸ Lib.below_grow _ W (Nat.le_refl _) k os⟩
theorem repeatL_one : ∀ (c : UInt8) (k : Nat), Lib.repeatL [c] k = List.replicate k c
 | _, 0 => rfl
 | c, k + 1 => by
  have := repeatL_one c k
  unfold Lib.repeatL
  rw [this]
  rfl
theorem gauge_Text_odd (x : Nat) (hx : x < 18446744073709551616) (w : World) (h : nanB x = true ∨ infS false x = true ∨ infS true x = true ∨ 4786511204640096256 ≤ rung x) :
  Calls Tryz.prog 18 #[.float .f64 x] w fun e w' => e = .returned (strV (textF x)) ∧ w = w' := by
 have HN := qd (fun (W : World) => math_IsNaN x W)
 cases hn : nanB x with
 | true =>
  rw [hn] at HN
  have HV := qd (show textF x = [110, 97, 110] from by unfold textF; rw [hn]; rfl)
  clear hn h
  go_in
  go_wp2_with fail
  refine (HN.out _).mono ?_
  rintro e w1 ⟨rfl, rfl⟩
  go_wp2
  go_ret
  exact ⟨ret_val (by rw [HV.out]; rfl), rfl⟩
 | false =>
  rw [hn] at HN
  have HP := qd (fun (W : World) => math_IsInf_pos x W hn)
  have HM := qd (fun (W : World) => math_IsInf_neg x hx W hn)
  cases hp : infS false x with
  | true =>
   rw [hp] at HP
   have HV := qd (show textF x = [43, 105, 110, 102] from by unfold textF; rw [hn, hp]; rfl)
   clear hn hp h
   go_in
   go_wp2_with fail
   refine (HN.out _).mono ?_
   rintro e w1 ⟨rfl, rfl⟩
   go_wp2_with fail
   refine (HP.out _).mono ?_
   rintro e w1 ⟨rfl, rfl⟩
   go_wp2
   go_ret
   exact ⟨ret_val (by rw [HV.out]; rfl), rfl⟩
  | false =>
   rw [hp] at HP
   cases hm : infS true x with
   | true =>
    rw [hm] at HM
    have HV := qd (show textF x = [45, 105, 110, 102] from by unfold textF; rw [hn, hp, hm]; rfl)
    clear hn hp hm h
    go_in
    go_wp2_with fail
    refine (HN.out _).mono ?_
    rintro e w1 ⟨rfl, rfl⟩
    go_wp2_with fail
    refine (HP.out _).mono ?_
    rintro e w1 ⟨rfl, rfl⟩
    go_wp2_with fail
    refine (HM.out _).mono ?_
    rintro e w1 ⟨rfl, rfl⟩
    go_wp2
    go_ret
    exact ⟨ret_val (by rw [HV.out]; rfl), rfl⟩
   | false =>
    rw [hm] at HM
    have hg : 4786511204640096256 ≤ rung x := by
     rcases h with h | h | h | h
     ·rw [hn] at h; cases h
     ·rw [hp] at h; cases h
     ·rw [hm] at h; cases h
     ·exact h
    have HV := qd (show textF x = [126] from by unfold textF; rw [hn, hp, hm, if_pos hg]; rfl)
    have HA := qd (fun (W : World) => math_Abs x hx W)
    have hnr : nanB (rung x) = false := by rw [nan_rung]; exact hn
    have g1 := gt_key hnr nan_w12
    have g2 := eq_key hnr nan_w12
    rw [key_rung, key_w12] at g1 g2
    obtain ⟨a, ha⟩ : ∃ a, rung x = a := ⟨_, rfl⟩
    rw [ha] at HA hg g1 g2
    by_cases hgt : 4786511204640096256 < a
    ·have q1 : (FloatKind.f64.format.order a 4786511204640096256 == some .gt) = true := by rw [g1]; simp; omega
     clear hn hp hm h ha hnr g1 g2 hg hgt
     go_in
     go_wp2_with fail
     refine (HN.out _).mono ?_
     rintro e w1 ⟨rfl, rfl⟩
     go_wp2_with fail
     refine (HP.out _).mono ?_
     rintro e w1 ⟨rfl, rfl⟩
     go_wp2_with fail
     refine (HM.out _).mono ?_
     rintro e w1 ⟨rfl, rfl⟩
     go_wp2_with fail
     refine (HA.out _).mono ?_
     rintro e w1 ⟨rfl, rfl⟩
     go_wp2
     go_ret
     exact ⟨ret_val (by rw [HV.out]; rfl), rfl⟩
    ·have q1 : (FloatKind.f64.format.order a 4786511204640096256 == some .gt) = false := by rw [g1]; simp; omega
     have q2 : (FloatKind.f64.format.order a 4786511204640096256 == some .eq) = true := by rw [g2]; simp; omega
     clear hn hp hm h ha hnr g1 g2 hg hgt
     go_in
     go_wp2_with fail
     refine (HN.out _).mono ?_
     rintro e w1 ⟨rfl, rfl⟩
     go_wp2_with fail
     refine (HP.out _).mono ?_
     rintro e w1 ⟨rfl, rfl⟩
     go_wp2_with fail
     refine (HM.out _).mono ?_
     rintro e w1 ⟨rfl, rfl⟩
     go_wp2_with fail
     refine (HA.out _).mono ?_
     rintro e w1 ⟨rfl, rfl⟩
     go_wp2
     go_ret
     exact ⟨ret_val (by rw [HV.out]; rfl), rfl⟩
theorem pad_len (n : Nat) (h : (digits n).length ≤ 3) : pad4 (digits n) = List.replicate (4 - (digits n).length) 48 ++ digits n := by unfold pad4; rw [if_pos h]
theorem pad_id (n : Nat) (h : ¬ (digits n).length ≤ 3) : pad4 (digits n) = digits n := by unfold pad4; rw [if_neg h]
theorem cut_milli {z : ByteArray} {n k : Nat} {s : List UInt8} {sg : ByteArray} (hz : z.data.toList = pad4 (digits n)) (hk : z.size = k + 3) (hs : sg.data.toList = s) :
  (sg ++ z.extract 0 k ++ ⟨#[46]⟩ ++ z.extract k z.size).data.toList = s ++ milli n := by
 have hl : z.data.toList.length = z.size := by simp
 rw [bapp, bapp, bapp, ← milli_cut, ← hz, hl, hk, Nat.add_sub_cancel, hs]
 have e1 : (z.extract 0 k).data.toList = z.data.toList.take k := by simp [ByteArray.data_extract]
 have e2 : (z.extract k (k + 3)).data.toList = z.data.toList.drop k := by
  have : z.data.toList.length = k + 3 := by rw [hl, hk]
  simp [ByteArray.data_extract]
  rw [List.take_of_length_le (by simp; omega)]
 rw [e1, e2]
 simp
theorem gauge_Text_plain (x : Nat) (hx : x < 18446744073709551616) (w : World) (hT : Lib.TabIs Tryz.prog w "internal/strconv.uint64pow10" .u64 Lib.pow10Tab) (hn : nanB x = false) (hp : infS false x = false) (hm : infS true x = false) (hg : rung x < 4786511204640096256) :
  Calls Tryz.prog 18 #[.float .f64 x] w fun e w' => e = .returned (strV (textF x)) ∧ Below w.heap.size w w' := by
 have HN := qd (fun (W : World) => by have := math_IsNaN x W; rw [hn] at this; exact this)
 have HP := qd (fun (W : World) => by have := math_IsInf_pos x W hn; rw [hp] at this; exact this)
 have HM := qd (fun (W : World) => by have := math_IsInf_neg x hx W hn; rw [hm] at this; exact this)
 have HA := qd (fun (W : World) => math_Abs x hx W)
 have HS := qd (fun (W : World) => math_Signbit x hx W)
 have HV := qd (show textF x = sgnT (sgn x) ++ milli (rounded (times (rung x))) from by unfold textF; rw [hn, hp, hm]; simp only [Bool.false_eq_true, if_false]; rw [if_neg (by omega)])
 have hnr : nanB (rung x) = false := by rw [nan_rung]; exact hn
 have g1 := gt_key hnr nan_w12
 have g2 := eq_key hnr nan_w12
 rw [key_rung, key_w12] at g1 g2
 have hlow := (times_low hg).2
 have hmul := run_mul1000 hg
 obtain ⟨a, ha⟩ : ∃ a, rung x = a := ⟨_, rfl⟩
 rw [ha] at HA g1 g2 HV hlow hmul hg
 have q1 : (FloatKind.f64.format.order a 4786511204640096256 == some .gt) = false := by rw [g1]; simp; omega
 have q2 : (FloatKind.f64.format.order a 4786511204640096256 == some .eq) = false := by rw [g2]; simp; omega
 obtain ⟨t, ht⟩ : ∃ t, times a = t := ⟨_, rfl⟩
 rw [ht] at HV hlow hmul
 have HR := qd (fun (W : World) => math_Round_low t hlow W)
 have hcv := run_round hlow
 have hrl := rounded_le hlow
 obtain ⟨n, hnn⟩ : ∃ n, rounded t = n := ⟨_, rfl⟩
 rw [hnn] at HV hcv hrl
 obtain ⟨z, hz⟩ : ∃ z : ByteArray, (⟨(digits n).toArray⟩ : ByteArray) = z := ⟨_, rfl⟩
 have HI := qd (fun (W : World) (hW : Lib.TabIs Tryz.prog W "internal/strconv.uint64pow10" .u64 Lib.pow10Tab) => show Calls Tryz.prog 40 #[.int .i64 (n : Int)] W (fun e w' => e = .returned (.string z) ∧ Below W.heap.size W w') from by have := itoa_nat n (by omega) W hW; unfold strV at this; rw [hz] at this; exact this)
 have hzl : z.size = (digits n).length := by rw [← hz]; show (digits n).toArray.size = _; simp
 have hz0 : 0 < z.size := by rw [hzl]; exact List.length_pos_iff.2 (digits_ne n)
 have hz20 : z.size ≤ 20 := by
  have := digits_length 18 n (by have e : (10 : Nat) ^ (18 + 1) = 10000000000000000000 := (by decide); omega)
  omega
 have HZ := qd (show z.data.toList = digits n from by rw [← hz])
 have HRep := qd (fun (c : Nat) (W : World) (hc : c ≤ 4) => show Calls Tryz.prog 42 #[.string ⟨#[48]⟩, .int .i64 (c : Int)] W (fun e w' => e = .returned (.string ⟨(List.replicate c 48).toArray⟩) ∧ Below W.heap.size W w') from by
  have := Tryz.strings_Repeat ⟨#[48]⟩ c W (by omega) (by show 1 * c ≤ _; omega)
  rw [repeatL_one] at this
  exact this)
 rw [hzl] at hz0 hz20
 have HZL := qd hzl
 have HTab := qd hT
 have HZ20 := qd (show z.size ≤ 20 from by omega)
 clear hn hp hm hnr g1 g2 hlow ha ht hnn hz hzl hT hrl hg hz0 hz20
 cases hsg : sgn x with
 | true =>
  rw [hsg] at HS HV
  clear hsg
  go_in
  go_wp2_with fail
  refine (HN.out _).mono ?_
  rintro e w1 ⟨rfl, rfl⟩
  go_wp2_with fail
  refine (HP.out _).mono ?_
  rintro e w1 ⟨rfl, rfl⟩
  go_wp2_with fail
  refine (HM.out _).mono ?_
  rintro e w1 ⟨rfl, rfl⟩
  go_wp2_with fail
  refine (HA.out _).mono ?_
  rintro e w1 ⟨rfl, rfl⟩
  go_wp2_with fail
  refine (HS.out _).mono ?_
  rintro e w1 ⟨rfl, rfl⟩
  go_upto_region 12 with fail
  go_wp2_with fail
  refine (HA.out _).mono ?_
  rintro e w1 ⟨rfl, rfl⟩
  go_wp2_with fail
  refine (HR.out _).mono ?_
  rintro e w1 ⟨rfl, rfl⟩
  go_wp2_with fail
  refine (HI.out _ HTab.out).mono ?_
  rintro e w1 ⟨rfl, hb1⟩
  by_cases h3 : (digits n).length ≤ 3
  ·have hz3 : (z.size : Int) ≤ 3 := by have := HZL.out; omega
   have hz1 : (1 : Int) ≤ (z.size : Int) := by have := HZL.out; have := List.length_pos_iff.2 (digits_ne n); omega
   have hc4 : (4 : Int) - (z.size : Int) = ((4 - z.size : Nat) : Int) := by omega
   have HC4 := qd hc4
   have HPad := qd (pad_len n h3)
   clear h3 hc4
   go_wp2_with fail
   rw [HC4.out]
   refine (HRep.out _ _ (by omega)).mono ?_
   rintro e w2 ⟨rfl, hb2⟩
   obtain ⟨r, hr⟩ : ∃ r : ByteArray, (⟨(List.replicate (4 - z.size) 48).toArray⟩ : ByteArray) = r := ⟨_, rfl⟩
   rw [hr]
   obtain ⟨y, hy⟩ : ∃ y : ByteArray, r ++ z = y := ⟨_, rfl⟩
   have hys : y.size = 1 + 3 := by
    have e1 : r.size = 4 - z.size := by rw [← hr]; show (List.replicate (4 - z.size) 48).toArray.size = _; simp
    have e2 := congrArg ByteArray.size hy
    rw [ByteArray.size_append, e1] at e2
    omega
   have hyd : y.data.toList = pad4 (digits n) := by
    rw [HPad.out, ← hy, bapp, HZ.out, ← HZL.out, ← hr]
   have HY := qd hy
   have HCut := qd (cut_milli (k := 1) (sg := ⟨#[45]⟩) (s := sgnT true) hyd hys rfl)
   have HYS := qd hys
   have hy4 : (y.size : Int) = 4 := by omega
   have HY4 := qd hy4
   have hrs : r.size ≤ 4 := by rw [← hr]; show (List.replicate (4 - z.size) 48).toArray.size ≤ _; simp
   have hz20 := HZ20.out
   clear hr hys hyd
   go_wp2_with fail
   go_quiet (fail)
   go_wp2
   go_ret
   exact ⟨ret_val (by rw [HV.out, ← HCut.out, strV_data]; rfl), below_drewN (hb1.trans (hb2.mono hb1.size)) _⟩
  ·have hz3 : ¬ (z.size : Int) ≤ 3 := by have := HZL.out; omega
   obtain ⟨k, hk⟩ : ∃ k, z.size = k + 3 := ⟨z.size - 3, by have := HZL.out; omega⟩
   have hyd : z.data.toList = pad4 (digits n) := by rw [pad_id n h3]; exact HZ.out
   have HCut := qd (cut_milli (sg := ⟨#[45]⟩) (s := sgnT true) hyd hk rfl)
   have hk3 : (z.size : Int) - 3 = (k : Int) := by omega
   have hk0 : (k : Int) ≤ (z.size : Int) := by omega
   have hz20 := HZ20.out
   clear h3 hk hyd
   go_wp2_with fail
   go_quiet (fail)
   go_wp2
   go_ret
   exact ⟨ret_val (by rw [HV.out, ← HCut.out, strV_data]; rfl), below_drewN hb1 _⟩
 | false =>
  rw [hsg] at HS HV
  clear hsg
  go_in
  go_wp2_with fail
  refine (HN.out _).mono ?_
  rintro e w1 ⟨rfl, rfl⟩
  go_wp2_with fail
  refine (HP.out _).mono ?_
  rintro e w1 ⟨rfl, rfl⟩
  go_wp2_with fail
  refine (HM.out _).mono ?_
  rintro e w1 ⟨rfl, rfl⟩
  go_wp2_with fail
  refine (HA.out _).mono ?_
  rintro e w1 ⟨rfl, rfl⟩
  go_wp2_with fail
  refine (HS.out _).mono ?_
  rintro e w1 ⟨rfl, rfl⟩
  go_upto_region 12 with fail
  go_wp2_with fail
  refine (HA.out _).mono ?_
  rintro e w1 ⟨rfl, rfl⟩
  go_wp2_with fail
  refine (HR.out _).mono ?_
  rintro e w1 ⟨rfl, rfl⟩
  go_wp2_with fail
  refine (HI.out _ HTab.out).mono ?_
  rintro e w1 ⟨rfl, hb1⟩
  by_cases h3 : (digits n).length ≤ 3
  ·have hz3 : (z.size : Int) ≤ 3 := by have := HZL.out; omega
   have hz1 : (1 : Int) ≤ (z.size : Int) := by have := HZL.out; have := List.length_pos_iff.2 (digits_ne n); omega
   have hc4 : (4 : Int) - (z.size : Int) = ((4 - z.size : Nat) : Int) := by omega
   have HC4 := qd hc4
   have HPad := qd (pad_len n h3)
   clear h3 hc4
   go_wp2_with fail
   rw [HC4.out]
   refine (HRep.out _ _ (by omega)).mono ?_
   rintro e w2 ⟨rfl, hb2⟩
   obtain ⟨r, hr⟩ : ∃ r : ByteArray, (⟨(List.replicate (4 - z.size) 48).toArray⟩ : ByteArray) = r := ⟨_, rfl⟩
   rw [hr]
   obtain ⟨y, hy⟩ : ∃ y : ByteArray, r ++ z = y := ⟨_, rfl⟩
   have hys : y.size = 1 + 3 := by
    have e1 : r.size = 4 - z.size := by rw [← hr]; show (List.replicate (4 - z.size) 48).toArray.size = _; simp
    have e2 := congrArg ByteArray.size hy
    rw [ByteArray.size_append, e1] at e2
    omega
   have hyd : y.data.toList = pad4 (digits n) := by
    rw [HPad.out, ← hy, bapp, HZ.out, ← HZL.out, ← hr]
   have HY := qd hy
   have HCut := qd (cut_milli (k := 1) (sg := ⟨#[]⟩) (s := sgnT false) hyd hys rfl)
   have HYS := qd hys
   have hy4 : (y.size : Int) = 4 := by omega
   have HY4 := qd hy4
   have hrs : r.size ≤ 4 := by rw [← hr]; show (List.replicate (4 - z.size) 48).toArray.size ≤ _; simp
   have hz20 := HZ20.out
   clear hr hys hyd
   go_wp2_with fail
   go_quiet (fail)
   go_wp2
   go_ret
   exact ⟨ret_val (by rw [HV.out, ← HCut.out, strV_data]; rfl), below_drewN (hb1.trans (hb2.mono hb1.size)) _⟩
  ·have hz3 : ¬ (z.size : Int) ≤ 3 := by have := HZL.out; omega
   obtain ⟨k, hk⟩ : ∃ k, z.size = k + 3 := ⟨z.size - 3, by have := HZL.out; omega⟩
   have hyd : z.data.toList = pad4 (digits n) := by rw [pad_id n h3]; exact HZ.out
   have HCut := qd (cut_milli (sg := ⟨#[]⟩) (s := sgnT false) hyd hk rfl)
   have hk3 : (z.size : Int) - 3 = (k : Int) := by omega
   have hk0 : (k : Int) ≤ (z.size : Int) := by omega
   have hz20 := HZ20.out
   clear h3 hk hyd
   go_wp2_with fail
   go_quiet (fail)
   go_wp2
   go_ret
   exact ⟨ret_val (by rw [HV.out, ← HCut.out, strV_data]; rfl), below_drewN hb1 _⟩
end Go.Proofs.YtckmopailiamlaaGreatDoor

/-! The plain law of the least and the greatest of a list that may hold NaN. No program in sight. -/
namespace Go.Proofs.YtckmopailiamlaaGreatDoor.AmF
set_option maxHeartbeats 2000000
open Go.RowKit AmD Go AmF
variable {l t : List Nat} {k least most out r x y : Nat}
structure LeastIs (l : List Nat) (r : Nat) : Prop where
 lt : r < 18446744073709551616
 nan : l = [] ∨ l.any nanB = true → nanB r = true
 num : ∀ x t, l = x :: t → l.any nanB = false → r = leastFrom x t
structure MostIs (l : List Nat) (r : Nat) : Prop where
 lt : r < 18446744073709551616
 nan : l = [] ∨ l.any nanB = true → nanB r = true
 num : ∀ x t, l = x :: t → l.any nanB = false → r = mostFrom x t
theorem leastFrom_snoc (x : Nat) (l : List Nat) (y : Nat) : leastFrom x (l ++ [y]) = if lessB y (leastFrom x l) then y else leastFrom x l := by unfold leastFrom; rw [List.foldl_append]; rfl
theorem mostFrom_snoc (x : Nat) (l : List Nat) (y : Nat) : mostFrom x (l ++ [y]) = if moreB y (mostFrom x l) then y else mostFrom x l := by unfold mostFrom; rw [List.foldl_append]; rfl
theorem leastFrom_mem (P : Nat → Prop) : ∀ (l : List Nat) (x : Nat), P x → (∀ y ∈ l, P y) → P (leastFrom x l)
 | [], _, h, _ => h
 | y :: t, x, h, hl => by
  simp only [leastFrom, List.foldl_cons]
  split
  ·exact leastFrom_mem P t y (hl y (by simp)) (fun z hz => hl z (List.mem_cons_of_mem _ hz))
  ·exact leastFrom_mem P t x h (fun z hz => hl z (List.mem_cons_of_mem _ hz))
theorem mostFrom_mem (P : Nat → Prop) : ∀ (l : List Nat) (x : Nat), P x → (∀ y ∈ l, P y) → P (mostFrom x l)
 | [], _, h, _ => h
 | y :: t, x, h, hl => by
  simp only [mostFrom, List.foldl_cons]
  split
  ·exact mostFrom_mem P t y (hl y (by simp)) (fun z hz => hl z (List.mem_cons_of_mem _ hz))
  ·exact mostFrom_mem P t x h (fun z hz => hl z (List.mem_cons_of_mem _ hz))
theorem any_mem (h : l.any nanB = false) : ∀ y ∈ l, nanB y = false := by
 intro y hy
 cases hn : nanB y with
 | false => rfl
 | true => rw [List.any_eq_true.2 ⟨y, hy, hn⟩] at h; cases h
theorem take_next (h : l[k]? = some y) : l.take (k + 1) = l.take k ++ [y] := by rw [List.take_add_one, h]; rfl
structure LeastAt (x : Nat) (t : List Nat) (k out : Nat) : Prop where
 eq : leastFrom x (t.take k) = out
 fine : k = 0 ∨ (x :: t.take k).any nanB = false
theorem LeastAt.lt (h : LeastAt x t k out) (hl : words (x :: t)) : out < 18446744073709551616 := by
 rw [← h.eq]
 exact leastFrom_mem (· < 18446744073709551616) _ _ (hl x (by simp)) (fun y hy => hl y (List.mem_cons_of_mem _ (List.mem_of_mem_take hy)))
theorem LeastAt.nan (h : LeastAt x t k out) : nanB out = true → nanB x = true := by
 intro hn
 rcases h.fine with h0 | h0
 ·subst h0
  have := h.eq
  simp [leastFrom] at this
  rw [this]; exact hn
 ·have h1 := any_mem h0
  have : nanB out = false := by
   rw [← h.eq]
   exact leastFrom_mem (fun y => nanB y = false) _ _ (h1 x (by simp)) (fun y hy => h1 y (List.mem_cons_of_mem _ hy))
  rw [this] at hn; cases hn
theorem LeastAt.next (h : LeastAt x t k out) (hl : words (x :: t)) (hy : t[k]? = some y) (ny : nanB y = false) (no : nanB out = false) : LeastAt x t (k + 1) (pick out y) := by
 have hyw := hl y (List.mem_cons_of_mem _ (List.mem_of_getElem? hy))
 refine ⟨?_, .inr ?_⟩
 ·rw [take_next hy, leastFrom_snoc, h.eq, pick_less hyw (h.lt hl) ny no]
 ·rw [take_next hy]
  have hx : (x :: t.take k).any nanB = false := by
   rcases h.fine with h0 | h0
   ·subst h0
    have := h.eq
    simp [leastFrom] at this
    subst this
    simp [no]
   ·exact h0
  rw [← List.cons_append, List.any_append, hx]
  simp [ny]
theorem LeastAt.done (h : LeastAt x t t.length out) (hl : words (x :: t)) : LeastIs (x :: t) out := by
 have he := h.eq
 rw [List.take_length] at he
 refine ⟨h.lt hl, fun hn => ?_, fun x' t' he' ha => ?_⟩
 ·rcases hn with hn | hn
  ·cases hn
  ·rcases h.fine with h0 | h0
   ·have ht := List.length_eq_zero_iff.1 h0
    subst ht
    simp [leastFrom] at he
    subst he
    simpa using hn
   ·rw [List.take_length, hn] at h0; cases h0
 ·injection he' with e1 e2
  subst e1; subst e2
  exact he.symm
structure LawAt (l : List Nat) (k least most : Nat) : Prop where
 zero : k = 0 → least = 9221120237041090561 ∧ most = 9221120237041090561
 num : ∀ x t, l = x :: t → 0 < k → (l.take k).any nanB = false ∧ least = leastFrom x (t.take (k - 1)) ∧ most = mostFrom x (t.take (k - 1))
def SameF (a b : Nat) : Prop := a = b ∨ (nanB a = true ∧ nanB b = true)
theorem LawAt.lt (h : LawAt l k least most) (hl : words l) (hk : k ≤ l.length) : least < 18446744073709551616 ∧ most < 18446744073709551616 := by
 by_cases h0 : k = 0
 ·obtain ⟨e1, e2⟩ := h.zero h0
  omega
 ·cases l with
  | nil => simp at hk; omega
  | cons x t =>
   obtain ⟨_, e1, e2⟩ := h.num x t rfl (by omega)
   have ht : ∀ y ∈ t.take (k - 1), y < 18446744073709551616 := fun y hy => hl y (List.mem_cons_of_mem _ (List.mem_of_mem_take hy))
   exact ⟨e1 ▸ leastFrom_mem (· < 18446744073709551616) _ _ (hl x (by simp)) ht, e2 ▸ mostFrom_mem (· < 18446744073709551616) _ _ (hl x (by simp)) ht⟩
theorem LawAt.first (hy : l[0]? = some y) (ny : nanB y = false) : LawAt l 1 y y := by
 refine ⟨fun h => absurd h (by omega), fun x t he _ => ?_⟩
 subst he
 simp only [List.getElem?_cons_zero, Option.some.injEq] at hy
 subst hy
 simp [ny, leastFrom, mostFrom]
theorem LawAt.next (h : LawAt l k least most) (h0 : 0 < k) (hy : l[k]? = some y) (ny : nanB y = false) :
  LawAt l (k + 1) (if lessB y least then y else least) (if moreB y most then y else most) := by
 refine ⟨fun h => absurd h (by omega), fun x t he _ => ?_⟩
 obtain ⟨h1, e1, e2⟩ := h.num x t he h0
 rw [take_next hy, List.any_append, h1]
 subst he
 obtain ⟨k, rfl⟩ : ∃ j, k = j + 1 := ⟨k - 1, by omega⟩
 rw [List.getElem?_cons_succ] at hy
 simp only [Nat.add_sub_cancel] at e1 e2 ⊢
 rw [take_next hy, leastFrom_snoc, mostFrom_snoc, ← e1, ← e2]
 simp [ny]
theorem LawAt.nan (hy : l[k]? = some y) (ny : nanB y = true) (h : LeastIs l r) : SameF r y :=
 .inr ⟨h.nan (.inr (List.any_eq_true.2 ⟨y, List.mem_of_getElem? hy, ny⟩)), ny⟩
theorem LawAt.done (h : LawAt l l.length least most) (hr : LeastIs l r) : SameF r least := by
 cases l with
 | nil =>
  obtain ⟨e1, _⟩ := h.zero rfl
  exact .inr ⟨hr.nan (.inl rfl), by rw [e1]; decide⟩
 | cons x t =>
  obtain ⟨h1, e1, _⟩ := h.num x t rfl (by simp)
  rw [List.take_length] at h1
  left
  rw [hr.num x t rfl h1, e1]
  simp
end Go.Proofs.YtckmopailiamlaaGreatDoor.AmF

/-! gauge.Least, gauge.Worst, gauge.Ratio, amblerlaw35.exact and the chapter's example by their contracts. -/
namespace Go.Proofs.YtckmopailiamlaaGreatDoor
set_option maxHeartbeats 2000000
open Go.RowKit AmD Go AmF
variable {w : World} {A : Option Addr} {k n : Nat} {l : List Nat}
def fV (x : Nat) : Value := .float .f64 x
end Go.Proofs.YtckmopailiamlaaGreatDoor

/-! gauge.Ratio and the chapter's example by their contracts; the walk of GaugeLists. -/
namespace Go.Proofs.YtckmopailiamlaaGreatDoor
set_option maxHeartbeats 2000000
open Go.RowKit AmD Go AmF
variable {m y : Nat}
def SaysTrue (w : World) (e : Ending) (w' : World) : Prop := e = .returned (.bool true) ∧ Below w.heap.size w w'
theorem gauge_Text (x : Nat) (hx : x < 18446744073709551616) (w : World) (hT : Lib.TabIs Tryz.prog w "internal/strconv.uint64pow10" .u64 Lib.pow10Tab) :
  Calls Tryz.prog 18 #[.float .f64 x] w fun e w' => e = .returned (strV (textF x)) ∧ Below w.heap.size w w' := by
 by_cases h : nanB x = true ∨ infS false x = true ∨ infS true x = true ∨ 4786511204640096256 ≤ rung x
 ·exact (gauge_Text_odd x hx w h).mono fun e w' ⟨he, hw⟩ => ⟨he, hw ▸ Below.refl _ _⟩
 ·simp only [not_or, Bool.not_eq_true, Nat.not_le] at h
  exact gauge_Text_plain x hx w hT h.1 h.2.1 h.2.2.1 h.2.2.2
theorem run_int_float (n : Int) (W : World) : (convert 3 43 (.int .i64 n)).run Tryz.prog W = .ok (.float .f64 (floatOfInt .f64 n)) W :=
 run_convert_int_float W 3 43 .i64 .f64 n (by rw [Tryz.underlying3]; rfl) Tryz.underlying43
theorem gauge_Ratio_num (a b : Int) (r : Nat) (h : Ieee.double.div (floatOfInt .f64 a) (floatOfInt .f64 b) = some r) (w : World) :
  Calls Tryz.prog 16 #[.int .i64 a, .int .i64 b] w fun e w' => e = .returned (.float .f64 r) ∧ w = w' := by
 have hca := run_int_float a
 have hcb := run_int_float b
 have hop : ∀ t W, (binOp .quo t (.float .f64 (floatOfInt .f64 a)) (.float .f64 (floatOfInt .f64 b))).run Tryz.prog W = .ok (.float .f64 r) W := fun t W => run_float_arith W .quo t .f64 _ _ r h
 clear h
 go_in
 go_wp2
 go_ret
 exact ⟨rfl, rfl⟩
theorem ex_zero : Ieee.double.div (floatOfInt .f64 0) (floatOfInt .f64 (-3)) = some 9223372036854775808 := by decide +kernel
theorem ex_inf : Ieee.double.div (floatOfInt .f64 1) (floatOfInt .f64 0) = some 9218868437227405312 := by decide +kernel
theorem ex_text : textF 4557750909289998844 = [48, 46, 48, 48, 49] := by
 have h1 : nanB 4557750909289998844 = false := by decide
 have h2 : infS false 4557750909289998844 = false := by decide
 have h3 : infS true 4557750909289998844 = false := by decide
 have h4 : ¬ 4786511204640096256 ≤ rung 4557750909289998844 := by decide
 have h5 : sgn 4557750909289998844 = false := by decide
 have h6 : rounded (times (rung 4557750909289998844)) = 1 := by decide +kernel
 unfold textF
 rw [h1, h2, h3, h5, h6]
 simp only [Bool.false_eq_true, if_false]
 rw [if_neg h4]
 unfold milli
 rw [digits_small (1 / 1000) (by decide)]
 rfl
theorem alive35 (w : World) (hT : Lib.TabIs Tryz.prog w "internal/strconv.uint64pow10" .u64 Lib.pow10Tab) :
  Calls Tryz.prog 4 #[] w fun e w' => e = .returned (.bool true) ∧ Below w.heap.size w w' := by
 have H0 := qd (fun (W : World) => gauge_Ratio_num 0 (-3) _ ex_zero W)
 have H1 := qd (fun (W : World) => gauge_Ratio_num 1 0 _ ex_inf W)
 have HI := qd (fun (W : World) => show Calls Tryz.prog 15 #[.float .f64 9218868437227405312, .int .i64 1] W (fun e w' => e = .returned (.bool true) ∧ W = w') from by have := math_IsInf_pos 9218868437227405312 W (by decide); rw [show infS false 9218868437227405312 = true by decide] at this; exact this)
 have HS := qd (fun (W : World) => show Calls Tryz.prog 17 #[.float .f64 9223372036854775808] W (fun e w' => e = .returned (.bool true) ∧ W = w') from by have := math_Signbit 9223372036854775808 (by decide) W; rw [show sgn 9223372036854775808 = true by decide] at this; exact this)
 have HTx := qd (show Calls Tryz.prog 18 #[.float .f64 4557750909289998844] w (fun e w' => e = .returned (.string ⟨#[48, 46, 48, 48, 49]⟩) ∧ Below w.heap.size w w') from by have := gauge_Text 4557750909289998844 (by decide) w hT; rw [ex_text] at this; exact this)
 have he : (FloatKind.f64.format.order 9223372036854775808 0 == some .eq) = true := by decide +kernel
 clear hT
 go_in
 go_wp2_with fail
 refine (H0.out _).mono ?_
 rintro e w1 ⟨rfl, rfl⟩
 go_wp2_with fail
 refine (H1.out _).mono ?_
 rintro e w1 ⟨rfl, rfl⟩
 go_wp2_with fail
 refine (HI.out _).mono ?_
 rintro e w1 ⟨rfl, rfl⟩
 go_wp2_with fail
 refine (HS.out _).mono ?_
 rintro e w1 ⟨rfl, rfl⟩
 go_wp2_with fail
 refine HTx.out.mono ?_
 rintro e w1 ⟨rfl, hb⟩
 go_wp2
 go_ret
 exact ⟨rfl, hb⟩
end Go.Proofs.YtckmopailiamlaaGreatDoor
