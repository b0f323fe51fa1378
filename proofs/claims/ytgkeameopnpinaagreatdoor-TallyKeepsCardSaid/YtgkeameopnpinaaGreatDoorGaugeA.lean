/- The plain law of the least and the greatest float of a list. No program in sight. -/
import Derived.Test.YtgkeameopnpinaaGreatDoorFloatO
import Derived.Test.YtgkeameopnpinaaGreatDoorFloatP
import Derived.Test.YtgkeameopnpinaaGreatDoorProg
import Derived.Test.YtgkeameopnpinaaGreatDoorLaneP
import Derived.WalkKit
import Derived.WalkSpells
import Derived.WalkLawsBesides
import Derived.Laws.BitsAllLaws
import Derived.KernelRfl
import Derived.Outline
import Derived.Deep.Cut
import Derived.Deep.CutRange
namespace Go.Proofs.YtgkeameopnpinaaGreatDoor.lH
open Ieee Go.RowKit lH
variable {a b w x : Nat}
def afj (w:Nat):Nat:=w^^^9223372036854775808
def pick (x y:Nat):Nat:=
 if double.read x== .infinity true||double.read y== .infinity true then double.write (.infinity true)
 else if(double.read x).isNaN||(double.read y).isNaN then 9221120237041090561
 else if(double.read x).isZero && (double.read y).isZero then(if(double.read x).neg==true then x else y)
 else if(double.read x).order (double.read y)==some .lt then x else y
def acu (x least:Nat):Bool:=decide (key x<key least)||(decide (rung x=0) && decide (rung least=0) && oW x)
def acv (x most:Nat):Bool:=decide (key most<key x)||(decide (rung x=0) && decide (rung most=0) && !oW x)
def acE (least:Nat)(l:List Nat):Nat:=l.foldl (fun a x=>if acu x a then x else a) least
def adu (most:Nat)(l:List Nat):Nat:=l.foldl (fun a x=>if acv x a then x else a) most
def words (l:List Nat):Prop:=∀x∈l,x<18446744073709551616
end Go.Proofs.YtgkeameopnpinaaGreatDoor.lH

/-! The plain law of rounding a float's word by its bits. No program in sight. -/
namespace Go.Proofs.YtgkeameopnpinaaGreatDoor.lH
open Ieee Go.RowKit lH
end Go.Proofs.YtgkeameopnpinaaGreatDoor.lH

/-! Small functions of package math by their contracts. -/
namespace Go.Proofs.YtgkeameopnpinaaGreatDoor
open Ieee Go.RowKit lH
variable {a b x : Nat}
theorem qK (a b:Nat):FloatKind.f64.format.order a b=if dX a||dX b then none else some (compare (key a) (key b)):=UU a b
theorem Nu (k:Int):compare k k= .eq:=by simp[compare,compareOfLessAndEq]
theorem Nv (x:Nat):(FloatKind.f64.format.order x x !=some .eq)=dX x:=by
 rw[qK,Bool.or_self,Nu]
 cases dX x<;>rfl
theorem abN (a b:Int):(compare a b== .gt)=decide (b<a):=by
 unfold compare instOrdInt compareOfLessAndEq;by_cases h1:a<b
 ·simp[h1];omega
 ·by_cases h2:a=b
  ·simp[h2]
  ·simp[h1,h2];omega
theorem abO (a b:Int):(compare a b== .lt)=decide (a<b):=by
 unfold compare instOrdInt compareOfLessAndEq;by_cases h1:a<b
 ·simp[h1]
 ·by_cases h2:a=b
  ·simp[h2]
  ·simp[h1,h2]
theorem cmp_eq (a b:Int):(compare a b== .eq)=decide (a=b):=by
 unfold compare instOrdInt compareOfLessAndEq;by_cases h1:a<b
 ·simp[h1];omega
 ·by_cases h2:a=b
  ·simp[h2]
  ·simp[h1,h2]
theorem UW (ha:dX a=false)(hb:dX b=false):(FloatKind.f64.format.order a b==some .gt)=decide (key b<key a):=by
 rw[qK,ha,hb,←abN];rfl
theorem UY (ha:dX a=false)(hb:dX b=false):(FloatKind.f64.format.order a b==some .lt)=decide (key a<key b):=by
 rw[qK,ha,hb,←abO];rfl
theorem abP (ha:dX a=false)(hb:dX b=false):(FloatKind.f64.format.order a b==some .eq)=decide (key a=key b):=by
 rw[qK,ha,hb,←cmp_eq];rfl
theorem XO (h:dX a=true∨dX b=true):FloatKind.f64.format.order a b=none:=by
 rw[qK]
 rcases h with h|h<;>rw[h]<;>simp
def afk (s:Bool)(x:Nat):Bool:=(rung x==9218868437227405312) && (oW x==s)
theorem aaf:key 9218868437227405311=9218868437227405311:=by decide
theorem aag:dX 9218868437227405311=false:=by decide
theorem RA (h:dX x=true):(FloatKind.f64.format.order x 9218868437227405311==some .gt)=false:=by
 rw[XO (.inl h)];rfl
theorem RB (x:Nat)(w:World):Calls Tryz.prog 28 #[.float .f64 x] w fun e w'=>e= .returned (.bool (dX x))∧w=w':=by
 go_in;go_wp2;go_ret;exact⟨vC (Nv x),rfl⟩
theorem XP (hx:x<18446744073709551616):bits .andNot .u64 (x:Int) 9223372036854775808=((rung x:Nat):Int):=by
 have:=u64_andNot_nat x 9223372036854775808 hx (by omega)
 have e:x &&& (18446744073709551615-9223372036854775808)=rung x:=by
  rw[show 18446744073709551615-9223372036854775808=2^63-1 by decide,Nat.and_two_pow_sub_one_eq_mod];rfl
 rw[e]at this;exact this
theorem XQ (x:Nat)(hx:x<18446744073709551616)(w:World):Calls Tryz.prog 23 #[.float .f64 x] w fun e w'=>e= .returned (.float .f64 (rung x))∧w=w':=by
 have ha:=XP hx;have he:=@run_callFunc_extern Tryz.prog 31 _ Extern.MathFloatBits.float64bits Tryz.func31 (by kernel_rfl) (by kernel_rfl) (by kernel_rfl) (by kernel_rfl);have hb:=fun(b:Nat) (W:World)=>show(Extern.MathFloatBits.float64bits #[.float .f64 b]).run Tryz.prog W= .ok (nU b) W from rfl;have hx':=@run_callFunc_extern Tryz.prog 19 _ Extern.MathFloatBits.float64frombits Tryz.func19 (by kernel_rfl) (by kernel_rfl) (by kernel_rfl) (by kernel_rfl);have hf:=fun(n:Nat) (W:World)=>show(Extern.MathFloatBits.float64frombits #[nU n]).run Tryz.prog W= .ok (.float .f64 n) W from rfl;go_in;go_wp2;go_ret;exact⟨rfl,rfl⟩
end Go.Proofs.YtgkeameopnpinaaGreatDoor
