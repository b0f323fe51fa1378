/- The plain law of the least and the greatest float of a list. No program in sight. -/
import Derived.Test.YtgfcmdmpegomdaaGreatDoorFloatO
import Derived.Test.YtgfcmdmpegomdaaGreatDoorProg
import Derived.Test.YtgfcmdmpegomdaaGreatDoorLaneP
import Derived.WalkKit
import Derived.WalkSpells
import Derived.WalkLawsBesides
import Derived.Laws.BitsAllLaws
import Derived.KernelRfl
import Derived.Outline
import Derived.Deep.Cut
import Derived.Deep.CutRange
import Derived.Test.YtgfcmdmpegomdaaGreatDoorTabP
namespace Go.Proofs.YtgfcmdmpegomdaaGreatDoor.AmF
set_option maxRecDepth 100000
set_option maxHeartbeats 4000000
open Ieee Go.RowKit AmF AmC
variable {a b w x : Nat}
def negW (w : Nat) : Nat := w ^^^ 9223372036854775808
def pick (x y : Nat) : Nat :=
 if double.read x == .infinity true || double.read y == .infinity true then double.write (.infinity true)
 else if (double.read x).isNaN || (double.read y).isNaN then 9221120237041090561
 else if (double.read x).isZero && (double.read y).isZero then (if (double.read x).neg == true then x else y)
 else if (double.read x).order (double.read y) == some .lt then x else y
def lessB (x least : Nat) : Bool := decide (key x < key least) || (decide (rung x = 0) && decide (rung least = 0) && sgn x)
def moreB (x most : Nat) : Bool := decide (key most < key x) || (decide (rung x = 0) && decide (rung most = 0) && !sgn x)
def leastFrom (least : Nat) (l : List Nat) : Nat := l.foldl (fun a x => if lessB x a then x else a) least
def mostFrom (most : Nat) (l : List Nat) : Nat := l.foldl (fun a x => if moreB x a then x else a) most
def words (l : List Nat) : Prop := ∀ x ∈ l, x < 18446744073709551616
end Go.Proofs.YtgfcmdmpegomdaaGreatDoor.AmF

/-! The plain law of rounding a float's word by its bits. No program in sight. -/
namespace Go.Proofs.YtgfcmdmpegomdaaGreatDoor.AmF
set_option maxRecDepth 100000
set_option maxHeartbeats 4000000
open Ieee Go.RowKit AmF AmC
end Go.Proofs.YtgfcmdmpegomdaaGreatDoor.AmF

/-! Small functions of package math by their contracts. -/
namespace Go.Proofs.YtgfcmdmpegomdaaGreatDoor
set_option maxRecDepth 100000
set_option maxHeartbeats 4000000
open Ieee Go.RowKit AmF AmC
variable {a b x : Nat}
theorem order_f64 (a b : Nat) : FloatKind.f64.format.order a b = if nanB a || nanB b then none else some (compare (key a) (key b)) := order_key a b
theorem compare_refl (k : Int) : compare k k = .eq := by simp [compare, compareOfLessAndEq]
theorem neq_self (x : Nat) : (FloatKind.f64.format.order x x != some .eq) = nanB x := by
 rw [order_f64, Bool.or_self, compare_refl]
 cases nanB x <;> rfl
theorem cmp_eq (a b : Int) : (compare a b == .eq) = decide (a = b) := by
 unfold compare instOrdInt compareOfLessAndEq
 by_cases h1 : a < b
 ·simp [h1]; omega
 ·by_cases h2 : a = b
  ·simp [h2]
  ·simp [h1, h2]
theorem eq_key (ha : nanB a = false) (hb : nanB b = false) : (FloatKind.f64.format.order a b == some .eq) = decide (key a = key b) := by
 rw [order_f64, ha, hb, ← cmp_eq]; rfl
def infS (s : Bool) (x : Nat) : Bool := (rung x == 9218868437227405312) && (sgn x == s)
theorem math_IsNaN (x : Nat) (w : World) : Calls Tryz.prog 59 #[.float .f64 x] w fun e w' => e = .returned (.bool (nanB x)) ∧ w = w' := by
 go_in
 go_wp2
 go_ret
 exact ⟨ret_bool (neq_self x), rfl⟩
theorem wrap_sign (hx : x < 18446744073709551616) : decide (wrap64 (x : Int) < 0) = sgn x := by
 unfold wrap64
 unfold sgn
 by_cases h : x < 9223372036854775808
 ·have e : x / 9223372036854775808 % 2 = 0 := by omega
  rw [e]
  simp
  omega
 ·have e : x / 9223372036854775808 % 2 = 1 := by omega
  rw [e]
  simp
  omega
theorem math_NaN (w : World) : Calls Tryz.prog 7 #[] w fun e w' => e = .returned (.float .f64 9221120237041090561) ∧ w = w' := by
 have hx := @run_callFunc_extern Tryz.prog 26 _ Extern.MathFloatBits.float64frombits Tryz.func26 (by kernel_rfl) (by kernel_rfl) (by kernel_rfl) (by kernel_rfl)
 have hf := fun (n : Int) (W : World) => show (Extern.MathFloatBits.float64frombits #[.int .u64 n]).run Tryz.prog W = .ok (.float .f64 n.toNat) W from rfl
 go_in
 go_wp2
 go_ret
 exact ⟨rfl, rfl⟩
theorem math_Signbit (x : Nat) (hx : x < 18446744073709551616) (w : World) : Calls Tryz.prog 48 #[.float .f64 x] w fun e w' => e = .returned (.bool (sgn x)) ∧ w = w' := by
 have HW := qd (wrap_sign hx)
 have he := @run_callFunc_extern Tryz.prog 30 _ Extern.MathFloatBits.float64bits Tryz.func30 (by kernel_rfl) (by kernel_rfl) (by kernel_rfl) (by kernel_rfl)
 have hb := fun (b : Nat) (W : World) => show (Extern.MathFloatBits.float64bits #[.float .f64 b]).run Tryz.prog W = .ok (.int .u64 (b : Int)) W from rfl
 go_in
 go_wp2
 go_ret
 exact ⟨ret_bool HW.out, rfl⟩
end Go.Proofs.YtgfcmdmpegomdaaGreatDoor

/-! Floats in their one form, and the keys of the forms: the plain law. No program in sight. -/
namespace Go.Proofs.YtgfcmdmpegomdaaGreatDoor.AmF
set_option maxRecDepth 100000
set_option maxHeartbeats 4000000
open Ieee Go.RowKit AmF AmC
variable {x : Nat}
def formW (x : Nat) : Nat := if nanB x then 9221120237041090560 else if rung x = 0 then 0 else x
def okey (x : Nat) : Nat := if sgn (formW x) then 18446744073709551615 - formW x else formW x + 9223372036854775808
theorem formW_lt (h : x < 18446744073709551616) : formW x < 18446744073709551616 := by
 unfold formW
 split
 ·decide
 ·split
  ·decide
  ·exact h
theorem formW_form (x : Nat) : formW (formW x) = formW x := by
 by_cases h : nanB x = true
 ·have : formW x = 9221120237041090560 := by unfold formW; rw [if_pos h]
  rw [this]; decide
 ·by_cases h0 : rung x = 0
  ·have : formW x = 0 := by unfold formW; rw [if_neg h, if_pos h0]
   rw [this]; decide
  ·have : formW x = x := by unfold formW; rw [if_neg h, if_neg h0]
   rw [this]; exact this
theorem sgn_lt (h : x < 18446744073709551616) : (sgn x = true ↔ 9223372036854775808 ≤ x) := by
 unfold sgn
 simp only [beq_iff_eq]
 omega
theorem okey_lt (h : x < 18446744073709551616) : okey x < 18446744073709551616 := by
 have h1 := formW_lt h
 have h2 := sgn_lt h1
 unfold okey
 by_cases hs : sgn (formW x) = true
 ·rw [if_pos hs]; omega
 ·rw [if_neg hs]
  have := mt h2.2 hs
  omega
theorem okey_inj {y : Nat} (hx : x < 18446744073709551616) (hy : y < 18446744073709551616) : okey x = okey y ↔ formW x = formW y := by
 refine ⟨fun h => ?_, fun h => by unfold okey; rw [h]⟩
 have h1 := formW_lt hx
 have h2 := sgn_lt h1
 have h3 := formW_lt hy
 have h4 := sgn_lt h3
 unfold okey at h
 by_cases hs : sgn (formW x) = true
 ·rw [if_pos hs] at h
  have g1 := h2.1 hs
  by_cases ht : sgn (formW y) = true
  ·rw [if_pos ht] at h
   have g2 := h4.1 ht
   omega
  ·rw [if_neg ht] at h
   have g2 := mt h4.2 ht
   omega
 ·rw [if_neg hs] at h
  have g1 := mt h2.2 hs
  by_cases ht : sgn (formW y) = true
  ·rw [if_pos ht] at h
   have g2 := h4.1 ht
   omega
  ·rw [if_neg ht] at h
   omega
theorem key_zero : key x = 0 ↔ rung x = 0 := by
 unfold key
 cases sgn x <;> simp
end Go.Proofs.YtgfcmdmpegomdaaGreatDoor.AmF

/-! order.Form, Bits, Key, fmap.Hash and amblerref27.Form by their contracts. No statement of the claim. -/
namespace Go.Proofs.YtgfcmdmpegomdaaGreatDoor
set_option maxRecDepth 100000
set_option maxHeartbeats 4000000
open Ieee Go.RowKit AmF AmC
variable {x : Nat}
theorem eq_zero_f (hn : nanB x = false) : (FloatKind.f64.format.order x 0 == some .eq) = decide (rung x = 0) := by
 rw [eq_key hn (show nanB 0 = false by decide), show key 0 = 0 by decide, Bool.eq_iff_iff]
 simp [key_zero]
theorem or_top {a : Nat} (h : a < 9223372036854775808) : bits .or .u64 (a : Int) 9223372036854775808 = ((a + 9223372036854775808 : Nat) : Int) := by
 have h1 := u64_or_nat a 9223372036854775808 (by omega) (by omega)
 have h2 := Nat.two_pow_add_eq_or_of_lt (i := 63) (b := a) (by simpa using h) 1
 rw [show (2 : Nat) ^ 63 * 1 = 9223372036854775808 by decide] at h2
 rw [Nat.or_comm, ← h2, Nat.add_comm] at h1
 exact h1
def fhash (k : Nat) : Nat := k * 11400714819323198485 % 18446744073709551616
theorem fhash_lt (k : Nat) : fhash k < 18446744073709551616 := Nat.mod_lt _ (by decide)
theorem order_Form (x : Nat) (w : World) : Calls Tryz.prog 35 #[.float .f64 x] w fun e w' => e = .returned (.float .f64 (formW x)) ∧ w = w' := by
 have hx := @run_callFunc_extern Tryz.prog 26 _ Extern.MathFloatBits.float64frombits Tryz.func26 (by kernel_rfl) (by kernel_rfl) (by kernel_rfl) (by kernel_rfl)
 have hf := fun (n : Int) (W : World) => show (Extern.MathFloatBits.float64frombits #[.int .u64 n]).run Tryz.prog W = .ok (.float .f64 n.toNat) W from rfl
 have HN := qd (fun (W : World) => math_IsNaN x W)
 cases hn : nanB x with
 | true =>
  rw [hn] at HN
  have HV := qd (show formW x = 9221120237041090560 from by unfold formW; simp [hn])
  clear hn
  go_in
  go_wp2_with fail
  refine (HN.out _).mono ?_
  rintro e w1 ⟨rfl, rfl⟩
  go_wp2
  go_ret
  exact ⟨ret_val (by rw [HV.out]; rfl), rfl⟩
 | false =>
  rw [hn] at HN
  by_cases h0 : rung x = 0
  ·have q : (FloatKind.f64.format.order x 0 == some .eq) = true := by rw [eq_zero_f hn]; simpa using h0
   have HV := qd (show formW x = 0 from by unfold formW; simp [hn, h0])
   clear hn h0
   go_in
   go_wp2_with fail
   refine (HN.out _).mono ?_
   rintro e w1 ⟨rfl, rfl⟩
   go_wp2
   go_ret
   exact ⟨ret_val (by rw [HV.out]; rfl), rfl⟩
  ·have q : (FloatKind.f64.format.order x 0 == some .eq) = false := by rw [eq_zero_f hn]; simpa using h0
   have HV := qd (show formW x = x from by unfold formW; simp [hn, h0])
   clear hn h0
   go_in
   go_wp2_with fail
   refine (HN.out _).mono ?_
   rintro e w1 ⟨rfl, rfl⟩
   go_wp2
   go_ret
   exact ⟨ret_val (by rw [HV.out]; rfl), rfl⟩
theorem order_Bits (x : Nat) (w : World) : Calls Tryz.prog 24 #[.float .f64 x] w fun e w' => e = .returned (.int .u64 (formW x : Int)) ∧ w = w' := by
 have he := @run_callFunc_extern Tryz.prog 30 _ Extern.MathFloatBits.float64bits Tryz.func30 (by kernel_rfl) (by kernel_rfl) (by kernel_rfl) (by kernel_rfl)
 have hb := fun (b : Nat) (W : World) => show (Extern.MathFloatBits.float64bits #[.float .f64 b]).run Tryz.prog W = .ok (.int .u64 (b : Int)) W from rfl
 have HF := qd (fun (W : World) => order_Form x W)
 go_in
 go_wp2_with fail
 refine (HF.out _).mono ?_
 rintro e w1 ⟨rfl, rfl⟩
 go_wp2
 go_ret
 exact ⟨rfl, rfl⟩
theorem order_Key (x : Nat) (hx : x < 18446744073709551616) (w : World) : Calls Tryz.prog 23 #[.float .f64 x] w fun e w' => e = .returned (.int .u64 (okey x : Int)) ∧ w = w' := by
 have HB := qd (fun (W : World) => order_Bits x W)
 have HF := qd (fun (W : World) => order_Form x W)
 have HS := qd (fun (W : World) => math_Signbit (formW x) (formW_lt hx) W)
 have hl := formW_lt hx
 have hsl := sgn_lt hl
 cases hs : sgn (formW x) with
 | true =>
  rw [hs] at HS
  have HV := qd (show okey x = 18446744073709551615 - formW x from by unfold okey; rw [if_pos hs])
  clear hsl hs
  go_in
  go_wp2_with fail
  refine (HB.out _).mono ?_
  rintro e w1 ⟨rfl, rfl⟩
  go_wp2_with fail
  refine (HF.out _).mono ?_
  rintro e w1 ⟨rfl, rfl⟩
  go_wp2_with fail
  refine (HS.out _).mono ?_
  rintro e w1 ⟨rfl, rfl⟩
  go_wp2
  go_ret
  exact ⟨ret_val (by rw [HV.out]; exact congrArg (Value.int .u64) (not_u64_nat _ hl)), rfl⟩
 | false =>
  rw [hs] at HS
  have hlt : formW x < 9223372036854775808 := by
   have := mt hsl.2 (by rw [hs]; simp)
   omega
  have HV := qd (show okey x = formW x + 9223372036854775808 from by unfold okey; rw [if_neg (by rw [hs]; simp)])
  clear hsl hs
  go_in
  go_wp2_with fail
  refine (HB.out _).mono ?_
  rintro e w1 ⟨rfl, rfl⟩
  go_wp2_with fail
  refine (HF.out _).mono ?_
  rintro e w1 ⟨rfl, rfl⟩
  go_wp2_with fail
  refine (HS.out _).mono ?_
  rintro e w1 ⟨rfl, rfl⟩
  go_wp2
  go_ret
  exact ⟨ret_val (by rw [HV.out]; exact congrArg (Value.int .u64) (or_top hlt)), rfl⟩
theorem fmap_Hash (x : Nat) (hx : x < 18446744073709551616) (w : World) : Calls Tryz.prog 25 #[.float .f64 x] w fun e w' => e = .returned (.int .u64 (fhash (okey x) : Int)) ∧ w = w' := by
 have HK := qd (fun (W : World) => order_Key x hx W)
 have HV := qd (show (fhash (okey x) : Int) = IntKind.u64.wrap ((okey x : Int) * 11400714819323198485) from by unfold fhash; rw [IntKind.wrap_u64]; omega)
 go_in
 go_wp2_with fail
 refine (HK.out _).mono ?_
 rintro e w1 ⟨rfl, rfl⟩
 go_wp2
 go_ret
 exact ⟨ret_val (by rw [HV.out]; rfl), rfl⟩
theorem nan_amount : IntKind.u64.wrap ((x : Int) * 2) / 9007199254740992 = ((rung x / 4503599627370496 : Nat) : Int) := by
 rw [IntKind.wrap_u64]
 unfold rung
 omega
theorem nan_low : IntKind.u64.wrap ((x : Int) * 4096) = ((x % 4503599627370496 * 4096 : Nat) : Int) := by
 rw [IntKind.wrap_u64]
 omega
theorem form_two : IntKind.u64.wrap ((x : Int) * 2) = ((rung x * 2 : Nat) : Int) := by
 rw [IntKind.wrap_u64]
 unfold rung
 omega
theorem nan_parts : nanB x = true ↔ rung x / 4503599627370496 = 2047 ∧ ¬ x % 4503599627370496 = 0 := by
 unfold nanB rung
 rw [decide_eq_true_iff]
 omega
theorem ref27_nan (x : Nat) (w : World) : Calls Tryz.prog 51 #[.int .u64 (x : Int)] w fun e w' => e = .returned (.bool (nanB x)) ∧ w = w' := by
 by_cases c1 : rung x / 4503599627370496 = 2047
 ·have e1 : (IntKind.u64.wrap ((x : Int) * 2) / 9007199254740992 == 2047) = true := by rw [nan_amount, c1]; rfl
  by_cases c2 : x % 4503599627370496 = 0
  ·have e2 : (IntKind.u64.wrap ((x : Int) * 4096) != 0) = false := by rw [nan_low, c2]; rfl
   have hV : nanB x = false := by rw [Bool.eq_false_iff]; intro h; have := nan_parts.1 h; omega
   rw [hV]
   go_in
   go_wp2
   go_ret
   exact ⟨by simp, rfl⟩
  ·have e2 : (IntKind.u64.wrap ((x : Int) * 4096) != 0) = true := by rw [nan_low]; simp; omega
   have hV : nanB x = true := by exact nan_parts.2 ⟨c1, c2⟩
   rw [hV]
   go_in
   go_wp2
   go_ret
   exact ⟨by simp, rfl⟩
 ·have e1 : (IntKind.u64.wrap ((x : Int) * 2) / 9007199254740992 == 2047) = false := by rw [nan_amount]; simp; omega
  have hV : nanB x = false := by rw [Bool.eq_false_iff]; intro h; have := nan_parts.1 h; omega
  rw [hV]
  go_in
  go_wp2
  go_ret
  exact ⟨by simp, rfl⟩
theorem ref27_Form (x : Nat) (_hx : x < 18446744073709551616) (w : World) : Calls Tryz.prog 29 #[.int .u64 (x : Int)] w fun e w' => e = .returned (.int .u64 (formW x : Int)) ∧ w = w' := by
 have HN := qd (fun (W : World) => ref27_nan x W)
 cases hn : nanB x with
 | true =>
  rw [hn] at HN
  have hV : formW x = 9221120237041090560 := by unfold formW; simp [hn]
  rw [hV]
  go_in
  go_wp2_with fail
  refine (HN.out _).mono ?_
  rintro e w1 ⟨rfl, rfl⟩
  go_wp2
  go_ret
  exact ⟨rfl, rfl⟩
 | false =>
  rw [hn] at HN
  by_cases c : rung x = 0
  ·have e1 : (IntKind.u64.wrap ((x : Int) * 2) == 0) = true := by rw [form_two, c]; rfl
   have hV : formW x = 0 := by unfold formW; simp [hn, c]
   rw [hV]
   go_in
   go_wp2_with fail
   refine (HN.out _).mono ?_
   rintro e w1 ⟨rfl, rfl⟩
   go_wp2
   go_ret
   exact ⟨rfl, rfl⟩
  ·have e1 : (IntKind.u64.wrap ((x : Int) * 2) == 0) = false := by rw [form_two]; simp; omega
   have hV : formW x = x := by unfold formW; simp [hn, c]
   rw [hV]
   go_in
   go_wp2_with fail
   refine (HN.out _).mono ?_
   rintro e w1 ⟨rfl, rfl⟩
   go_wp2
   go_ret
   exact ⟨rfl, rfl⟩
end Go.Proofs.YtgfcmdmpegomdaaGreatDoor

/-! A map of floats as one thing: its block, its map, as a function of keys. No statement of the claim. -/
namespace Go.Proofs.YtgfcmdmpegomdaaGreatDoor
set_option maxRecDepth 100000
set_option maxHeartbeats 4000000
open Ieee Go.RowKit AmF AmC
variable {es es' : List Ent}
def fnOf (es : List Ent) : Nat → Option Nat := fun k => (look es k).map Ent.val
def fupd (R : Nat → Option Nat) (k : Nat) (v : Option Nat) : Nat → Option Nat := fun x => if x = k then v else R x
theorem fupd_same (R : Nat → Option Nat) (k : Nat) (v : Option Nat) : fupd R k v k = v := if_pos rfl
theorem fupd_ne {R : Nat → Option Nat} {k x : Nat} {v : Option Nat} (h : x ≠ k) : fupd R k v x = R x := if_neg h
theorem look_rest (es : List Ent) (key k : Nat) : look (rest es key) k = if k = key then none else look es k := by
 unfold look rest
 rw [List.find?_filter]
 split
 ·rename_i h
  subst h
  rw [List.find?_eq_none]
  intro x _
  simp
 ·rename_i h
  congr 1
  funext x
  by_cases hx : x.key = k
  ·simp [hx, h]
  ·simp [hx]
theorem look_snoc (l : List Ent) (e : Ent) (k : Nat) : look (l ++ [e]) k = (look l k).or (if e.key = k then some e else none) := by
 unfold look
 rw [List.find?_append]
 congr 1
 by_cases h : e.key = k
 ·simp [h]
 ·simp [h]
theorem rest_len (hn : (es.map Ent.key).Nodup) (key : Nat) : (rest es key).length = if (fnOf es key).isSome then es.length - 1 else es.length := by
 unfold fnOf
 cases hl : look es key with
 | none => rw [rest_none hl]; simp
 | some e =>
  obtain ⟨h1, rfl⟩ := look_mem hl
  have hp := List.perm_cons_erase h1
  have h2 := (rest_cons hn hp).length_eq
  rw [h2, List.length_erase_of_mem h1]
  simp
theorem fn_put {M : Nat} {e : Ent} (hn : (es.map Ent.key).Nodup) (hn' : (es'.map Ent.key).Nodup) (hlt : es.length < M) (hp : es'.Perm (putL M es e)) : fnOf es' = fupd (fnOf es) e.key (some e.val) ∧ es'.length = if (fnOf es e.key).isSome then es.length else es.length + 1 := by
 have hf : fullB M es e.key = false := by unfold fullB; rw [show decide (M ≤ es.length) = false by simp; omega]; simp
 unfold putL at hp
 rw [hf] at hp
 simp only [Bool.false_eq_true, if_false] at hp
 constructor
 ·funext k
  show (look es' k).map Ent.val = _
  rw [look_perm hp hn', look_snoc, look_rest]
  by_cases hk : k = e.key
  ·rw [if_pos hk, hk, fupd_same, if_pos rfl]; rfl
  ·rw [if_neg hk, fupd_ne hk, if_neg (fun h => hk h.symm), Option.or_none]; rfl
 ·rw [hp.length_eq, List.length_append, rest_len hn]
  show (if (fnOf es e.key).isSome = true then es.length - 1 else es.length) + 1 = _
  by_cases hs : (fnOf es e.key).isSome = true
  ·rw [if_pos hs, if_pos hs]
   have : 0 < es.length := by
    cases es with
    | nil => simp [fnOf, look] at hs
    | cons => simp
   omega
  ·rw [if_neg hs, if_neg hs]
theorem fn_del {key : Nat} (hn : (es.map Ent.key).Nodup) (hn' : (es'.map Ent.key).Nodup) (hp : es'.Perm (rest es key)) : fnOf es' = fupd (fnOf es) key none ∧ es'.length = if (fnOf es key).isSome then es.length - 1 else es.length := by
 constructor
 ·funext k
  show (look es' k).map Ent.val = _
  rw [look_perm hp hn', look_rest]
  by_cases hk : k = key
  ·rw [if_pos hk, hk, fupd_same]; rfl
  ·rw [if_neg hk, fupd_ne hk]; rfl
 ·rw [hp.length_eq, rest_len hn]
def upN (o : Option Nat) (n : Nat) : Nat := if o.isSome then n else n + 1
def dnN (o : Option Nat) (n : Nat) : Nat := if o.isSome then n - 1 else n
def FmAt (W0 : World) (E : Nat → Addr) (K M I fb b : Nat) (G : List Nat) (w : World) (R : Nat → Option Nat) (n : Nat) (its : List It) (gv : Nat) : Prop :=
 ∃ (F : List Nat) (a : Pool) (ids : List Nat) (lst : Cnt), Blk w fb 55 #[.pointer (some ⟨b, 0, none⟩)] ∧ RtAt W0 E fhash K M I b F w a ids its gv lst ∧ G = fb :: F ∧ fb ∉ F ∧ W0.heap.size ≤ fb ∧ fnOf a.ents = R ∧ a.ents.length = n
def FmTo (W0 : World) (E : Nat → Addr) (K M I fb b : Nat) (G : List Nat) (w w' : World) (R : Nat → Option Nat) (n : Nat) (its : List It) (gv : Nat) : Prop :=
 ∃ G', FmAt W0 E K M I fb b G' w' R n its gv ∧ (∀ q ∈ G', q ∈ G ∨ w.heap.size ≤ q) ∧ Mod G w w'
section
variable {W0 : World} {E : Nat → Addr} {K M I fb b : Nat} {G F : List Nat} {w w' : World} {R R' : Nat → Option Nat} {n n' : Nat} {its its' : List It} {gv gv' : Nat} {a : Pool} {ids : List Nat} {lst : Cnt}
theorem FmAt.below (h : FmAt W0 E K M I fb b G w R n its gv) (hb : Below w.heap.size w w') : FmAt W0 E K M I fb b G w' R n its gv := by
 obtain ⟨F, a, ids, lst, h1, h2, h3⟩ := h
 exact ⟨F, a, ids, lst, h1.below hb h1.lt, h2.below hb, h3⟩
theorem FmAt.lts (h : FmAt W0 E K M I fb b G w R n its gv) : ∀ q ∈ G, q < w.heap.size ∧ W0.heap.size ≤ q := by
 obtain ⟨F, a, ids, lst, h1, h2, rfl, h4, h5, _⟩ := h
 intro q hq
 rcases List.mem_cons.1 hq with rfl | hq
 ·exact ⟨h1.lt, h5⟩
 ·exact h2.facts.1 q hq
theorem FmAt.of {a' : Pool} {ids' : List Nat} {lst' : Cnt} (hB : Blk w fb 55 #[.pointer (some ⟨b, 0, none⟩)]) (hne : fb ∉ F) (h0 : W0.heap.size ≤ fb) (hr : RtTo W0 E fhash K M I b F w w' a' ids' its' gv' lst') (hR : fnOf a'.ents = R') (hn : a'.ents.length = n') : FmTo W0 E K M I fb b (fb :: F) w w' R' n' its' gv' := by
 obtain ⟨F', h1, h2, h3⟩ := hr
 have hl := hB.lt
 refine ⟨fb :: F', ⟨F', a', ids', lst', hB.mod h3 hne, h1, rfl, fun hf => ?_, h0, hR, hn⟩, fun q hq => ?_, h3.more (fun q hq => List.mem_cons_of_mem _ hq)⟩
 ·rcases h2 fb hf with k | k
  ·exact hne k
  ·omega
 ·rcases List.mem_cons.1 hq with k | k
  ·exact .inl (by rw [k]; simp)
  ·rcases h2 q k with z | z
   ·exact .inl (List.mem_cons_of_mem _ z)
   ·exact .inr z
theorem FmTo.of_drew (h : FmTo W0 E K M I fb b G w.drew w' R n its gv) : FmTo W0 E K M I fb b G w w' R n its gv := by
 obtain ⟨G', h1, h2, h3⟩ := h
 exact ⟨G', h1, h2, (Mod.of_below (Below.refl w.heap.size w).drew G).then h3⟩
end
end Go.Proofs.YtgfcmdmpegomdaaGreatDoor
