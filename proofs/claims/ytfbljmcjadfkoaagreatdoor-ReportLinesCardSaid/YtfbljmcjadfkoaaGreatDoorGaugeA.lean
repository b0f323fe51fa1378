/- The plain law of the least and the greatest float of a list. No program in sight. -/
import Derived.Test.YtfbljmcjadfkoaaGreatDoorFloatO
import Derived.Test.YtfbljmcjadfkoaaGreatDoorFloatP
import Derived.Test.YtfbljmcjadfkoaaGreatDoorProg
import Derived.Test.YtfbljmcjadfkoaaGreatDoorSq
import Derived.WalkKit
import Derived.WalkSpells
import Derived.WalkLawsBesides
import Derived.Laws.BitsAllLaws
import Derived.KernelRfl
import Derived.Outline
import Derived.Deep.Cut
import Derived.Deep.CutRange
namespace Go.Proofs.YtfbljmcjadfkoaaGreatDoor.AmF
set_option maxRecDepth 100000
open Ieee Go.RowKit AmF
variable {a b w x : Nat}
def negW (w:Nat):Nat:=w^^^9223372036854775808
theorem negW_facts (h:w<18446744073709551616):rung (negW w)=rung w∧sgn (negW w)= !sgn w∧negW w<18446744073709551616:=by
 have h1:(w^^^9223372036854775808)/2^63=(w/2^63)^^^(9223372036854775808/2^63):=Nat.xor_div_two_pow;have h2:(w^^^9223372036854775808) % 2^63=(w % 2^63)^^^(9223372036854775808 % 2^63):=Nat.xor_mod_two_pow
 have e:(2:Nat)^63=9223372036854775808:=by decide
 rw[e]at h1 h2
 have e1:(9223372036854775808:Nat)/9223372036854775808=1:=by decide
 have e2:(9223372036854775808:Nat) % 9223372036854775808=0:=by decide
 rw[e1]at h1;rw[e2,Nat.xor_zero]at h2
 have hs:w/9223372036854775808=0∨w/9223372036854775808=1:=by omega
 refine⟨h2, ?_, ?_⟩
 ·unfold negW sgn;rw[h1]
  rcases hs with hs|hs<;>rw[hs]<;>decide
 ·unfold negW
  have h3:(w^^^9223372036854775808)/9223372036854775808≤1:=by
   rw[h1]
   rcases hs with hs|hs<;>rw[hs]<;>decide
  omega
theorem nan_neg (h:w<18446744073709551616):nanB (negW w)=nanB w:=by
 unfold nanB;rw[(negW_facts h).1]
theorem word_of (w:Nat)(h:w<18446744073709551616):w=(if sgn w then 9223372036854775808 else 0)+rung w:=by
 have hs:w/9223372036854775808=0∨w/9223372036854775808=1:=by omega
 unfold sgn rung;rcases hs with hs|hs
 ·rw[hs]
  have:((0 % 2==1)=true)=False:=by simp
  simp;omega
 ·rw[hs];simp;omega
theorem word_ext (ha:a<18446744073709551616)(hb:b<18446744073709551616)(h1:sgn a=sgn b)(h2:rung a=rung b):a=b:=by
 rw[word_of a ha,word_of b hb,h1,h2]
theorem key_eq (ha:a<18446744073709551616)(hb:b<18446744073709551616)(h:key a=key b):a=b∨(rung a=0∧rung b=0):=by
 unfold key at h;by_cases h0:rung a=0
 ·right;refine⟨h0, ?_⟩;rw[h0]at h
  cases hsa:sgn a<;>cases hsb:sgn b<;>simp[hsa,hsb]at h<;>omega
 ·left;apply word_ext ha hb
  ·cases hsa:sgn a<;>cases hsb:sgn b<;>simp[hsa,hsb]at h⊢<;>omega
  ·cases hsa:sgn a<;>cases hsb:sgn b<;>simp[hsa,hsb]at h<;>omega
def pick (x y:Nat):Nat:=
 if double.read x== .infinity true||double.read y== .infinity true then double.write (.infinity true)
 else if(double.read x).isNaN||(double.read y).isNaN then 9221120237041090561
 else if(double.read x).isZero && (double.read y).isZero then(if(double.read x).neg==true then x else y)
 else if(double.read x).order (double.read y)==some .lt then x else y
def lessB (x least:Nat):Bool:=decide (key x<key least)||(decide (rung x=0) && decide (rung least=0) && sgn x)
theorem inf_true:double.write (.infinity true)=18442240474082181120:=by decide
theorem nan_read (w:Nat):(double.read w).isNaN=nanB w:=by
 cases h:nanB w with
 |true=>rw[read_nan h];rfl
 |false=>
  have ha:rung w≤9218868437227405312:=by have:=of_decide_eq_false h;omega
  by_cases ea:rung w=9218868437227405312
  ·rw[read_inf ea];rfl
  ·obtain⟨m,c,hr,_⟩:=read_fin (w:=w) (by omega);rw[hr];rfl
theorem value_pos {r:Nat}(h:0<r):0<value r:=by
 have:=value_mono h;rw[value_zero]at this;exact this
theorem zero_read (h:nanB w=false):(double.read w).isZero=decide (rung w=0):=by
 have ha:rung w≤9218868437227405312:=by have:=of_decide_eq_false h;omega
 by_cases ea:rung w=9218868437227405312
 ·rw[read_inf ea,ea];rfl
 ·obtain⟨m,c,hr,hv⟩:=read_fin (w:=w) (by omega);rw[hr];by_cases h0:rung w=0
  ·rw[h0,value_zero]at hv
   have:m=0:=by
    rcases Nat.mul_eq_zero.1 hv with e|e
    ·exact e
    ·have:=Nat.two_pow_pos c;omega
   rw[this,h0];rfl
  ·have hp:=value_pos (r:=rung w) (by omega)
   have hm:m≠0:=fun e=>by rw[e,Nat.zero_mul]at hv;omega
   have e2:decide (rung w=0)=false:=by simpa using h0
   rw[e2]
   cases m with
   |zero=>exact absurd rfl hm
   |succ m=>rfl
theorem neg_read (h:nanB w=false):(double.read w).neg=sgn w:=by
 have ha:rung w≤9218868437227405312:=by have:=of_decide_eq_false h;omega
 by_cases ea:rung w=9218868437227405312
 ·rw[read_inf ea];rfl
 ·obtain⟨m,c,hr,hv⟩:=read_fin (w:=w) (by omega);rw[hr];rfl
theorem inf_read (hw:w<18446744073709551616)(h:nanB w=false):(double.read w== .infinity true)=decide (w=18442240474082181120):=by
 have ha:rung w≤9218868437227405312:=by have:=of_decide_eq_false h;omega
 by_cases ea:rung w=9218868437227405312
 ·rw[read_inf ea]
  cases hs:sgn w with
  |true=>
   have:w=18442240474082181120:=by rw[word_of w hw,hs,ea];rfl
   rw[this];rfl
  |false=>
   have:w≠18442240474082181120:=fun e=>by rw[e]at hs;revert hs;decide
   have e2:decide (w=18442240474082181120)=false:=by simpa using this
   rw[e2];rfl
 ·obtain⟨m,c,hr,hv⟩:=read_fin (w:=w) (by omega);rw[hr]
  have:w≠18442240474082181120:=fun e=>by rw[e]at ea;revert ea;decide
  have e2:decide (w=18442240474082181120)=false:=by simpa using this
  rw[e2];rfl
theorem key_least (h:nanB w=false):key 18442240474082181120≤key w:=by
 have ha:rung w≤9218868437227405312:=by have:=of_decide_eq_false h;omega
 have e:key 18442240474082181120= -9218868437227405312:=by decide
 rw[e];unfold key
 cases sgn w<;>simp<;>omega
theorem pick_less {least:Nat}(hx:x<18446744073709551616)(hl:least<18446744073709551616)(nx:nanB x=false)(nl:nanB least=false):pick least x=if lessB x least then x else least:=by
 unfold pick lessB;rw[inf_read hl nl,inf_read hx nx,nan_read,nan_read,nx,nl,zero_read nx,zero_read nl,neg_read nl];have ho:=order_key least x;rw[nx,nl]at ho;simp only[Bool.or_self,Bool.false_eq_true,if_false]at ho;unfold Format.order at ho;rw[ho,inf_true];by_cases e1:least=18442240474082181120
 ·subst e1;have hk:=key_least nx
  have hr:rung 18442240474082181120=9218868437227405312:=by decide
  have e2:decide (key x<key 18442240474082181120)=false:=by rw[decide_eq_false_iff_not];omega
  rw[e2,hr];simp
 ·by_cases e2:x=18442240474082181120
  ·subst e2;have hk:=key_least nl
   have hne:key 18442240474082181120≠key least:=by
    intro e;rcases key_eq (by decide) hl e with h|⟨h,_⟩
    ·exact e1 h.symm
    ·revert h;decide
   have e3:decide (key 18442240474082181120<key least)=true:=by rw[decide_eq_true_iff];omega
   rw[e3];simp
  ·have d1:decide (least=18442240474082181120)=false:=by simpa using e1
   have d2:decide (x=18442240474082181120)=false:=by simpa using e2
   rw[d1,d2];simp only[Bool.or_self,Bool.false_eq_true,if_false];by_cases hz:rung least=0∧rung x=0
   ·obtain⟨z1,z2⟩:=hz
    have k1:key least=0:=by unfold key;rw[z1];simp
    have k2:key x=0:=by unfold key;rw[z2];simp
    rw[z1,z2,k1,k2];simp only[decide_true,Bool.and_self,if_true,Int.lt_irrefl,decide_false,Bool.false_or,Bool.true_and]
    cases s1:sgn least<;>cases s2:sgn x
    ·simp;exact word_ext hx hl (by rw[s1,s2]) (by rw[z1,z2])
    ·simp
    ·simp
    ·simp;exact word_ext hl hx (by rw[s1,s2]) (by rw[z1,z2])
   ·have d3:(decide (rung least=0) && decide (rung x=0))=false:=by
     rw[Bool.eq_false_iff];intro h;simp at h;exact hz h
    have d4:(decide (rung x=0) && decide (rung least=0))=false:=by rw[Bool.and_comm];exact d3
    rw[d3,d4];simp only[Bool.false_eq_true,if_false,Bool.false_and,Bool.or_false];rcases Int.lt_trichotomy (key least) (key x)with g|g|g
    ·rw[Int.compare_eq_lt.2 g]
     have:decide (key x<key least)=false:=by rw[decide_eq_false_iff_not];omega
     rw[this];rfl
    ·rw[Int.compare_eq_eq.2 g]
     have:decide (key x<key least)=false:=by rw[decide_eq_false_iff_not];omega
     rw[this];rcases key_eq hl hx g with h|h
     ·simp[h]
     ·exact absurd h hz
    ·rw[Int.compare_eq_gt.2 g]
     have:decide (key x<key least)=true:=by rw[decide_eq_true_iff];omega
     rw[this];rfl
def moreB (x most:Nat):Bool:=decide (key most<key x)||(decide (rung x=0) && decide (rung most=0) && !sgn x)
def leastFrom (least:Nat)(l:List Nat):Nat:=l.foldl (fun a x=>if lessB x a then x else a) least
def mostFrom (most:Nat)(l:List Nat):Nat:=l.foldl (fun a x=>if moreB x a then x else a) most
def words (l:List Nat):Prop:=∀x∈l,x<18446744073709551616
end Go.Proofs.YtfbljmcjadfkoaaGreatDoor.AmF

/-! The plain law of rounding a float's word by its bits. No program in sight. -/
namespace Go.Proofs.YtfbljmcjadfkoaaGreatDoor.AmF
set_option maxRecDepth 100000
open Ieee Go.RowKit AmF
theorem and_high (a k:Nat)(ha:a<18446744073709551616)(hk:k≤64):a &&& (18446744073709551615-(2^k-1))=a/2^k*2^k:=by
 have hp:=Nat.two_pow_pos k
 have e64:(2:Nat)^64=18446744073709551616:=by decide
 have hle:2^k≤2^64:=Nat.pow_le_pow_right (by decide) hk
 have e1:18446744073709551615-(2^k-1)=(2^(64-k)-1)<<<k:=by
  rw[Nat.shiftLeft_eq,Nat.sub_mul,←Nat.pow_add,show 64-k+k=64 by omega,e64];omega
 have e2:a/2^k*2^k=(a>>>k)<<<k:=by rw[Nat.shiftLeft_eq,Nat.shiftRight_eq_div_pow]
 rw[e1,e2];apply Nat.eq_of_testBit_eq;intro j;rw[Nat.testBit_and,Nat.testBit_shiftLeft,Nat.testBit_shiftLeft,Nat.testBit_shiftRight,Nat.testBit_two_pow_sub_one];by_cases hj:j≥k
 ·rw[show k+(j-k)=j by omega];simp only[hj,decide_true,Bool.true_and];by_cases h64:j<64
  ·have:j-k<64-k:=by omega
   simp[this]
  ·have:a.testBit j=false:=Nat.testBit_lt_two_pow (Nat.lt_of_lt_of_le (by rw[←e64]at ha;exact ha) (Nat.pow_le_pow_right (by decide) (by omega)));rw[this];simp
 ·simp[hj]
theorem half_shift {d:Nat}(h:d≤51):(2251799813685248:Int)/2^d=((2^(51-d):Nat):Int):=by
 have e:(2251799813685248:Nat)=2^(51-d)*2^d:=by rw[←Nat.pow_add,show 51-d+d=51 by omega]
 have:(2251799813685248:Nat)/2^d=2^(51-d):=by rw[e,Nat.mul_div_cancel _ (Nat.two_pow_pos d)]
 rw[←this];simp
theorem frac_shift {d:Nat}(h:d≤51):(4503599627370495:Int)/2^d=((2^(52-d)-1:Nat):Int):=by
 have hp:=Nat.two_pow_pos d;have hq:=Nat.two_pow_pos (52-d)
 have e:(4503599627370496:Nat)=2^(52-d)*2^d:=by rw[←Nat.pow_add,show 52-d+d=52 by omega]
 have:(4503599627370495:Nat)/2^d=2^(52-d)-1:=by
  have e2:(4503599627370495:Nat)=(2^d-1)+2^d*(2^(52-d)-1):=by
   rw[Nat.mul_sub,Nat.mul_comm,←e];have:2^d≤2^51:=Nat.pow_le_pow_right (by decide) h
   have e51:(2:Nat)^51=2251799813685248:=by decide
   omega
  conv=>lhs;rw[e2]
  rw[Nat.add_mul_div_left _ _ hp,Nat.div_eq_of_lt (by omega),Nat.zero_add]
 rw[←this];simp
end Go.Proofs.YtfbljmcjadfkoaaGreatDoor.AmF

/-! Small functions of package math by their contracts. -/
namespace Go.Proofs.YtfbljmcjadfkoaaGreatDoor
set_option maxRecDepth 100000
open Ieee Go.RowKit AmF
variable {a b x : Nat}
theorem order_f64 (a b:Nat):FloatKind.f64.format.order a b=if nanB a||nanB b then none else some (compare (key a) (key b)):=order_key a b
theorem compare_refl (k:Int):compare k k= .eq:=by simp[compare,compareOfLessAndEq]
theorem neq_self (x:Nat):(FloatKind.f64.format.order x x !=some .eq)=nanB x:=by
 rw[order_f64,Bool.or_self,compare_refl]
 cases nanB x<;>rfl
theorem cmp_gt (a b:Int):(compare a b== .gt)=decide (b<a):=by
 unfold compare instOrdInt compareOfLessAndEq;by_cases h1:a<b
 ·simp[h1];omega
 ·by_cases h2:a=b
  ·simp[h2]
  ·simp[h1,h2];omega
theorem cmp_eq (a b:Int):(compare a b== .eq)=decide (a=b):=by
 unfold compare instOrdInt compareOfLessAndEq;by_cases h1:a<b
 ·simp[h1];omega
 ·by_cases h2:a=b
  ·simp[h2]
  ·simp[h1,h2]
theorem gt_key (ha:nanB a=false)(hb:nanB b=false):(FloatKind.f64.format.order a b==some .gt)=decide (key b<key a):=by
 rw[order_f64,ha,hb,←cmp_gt];rfl
theorem eq_key (ha:nanB a=false)(hb:nanB b=false):(FloatKind.f64.format.order a b==some .eq)=decide (key a=key b):=by
 rw[order_f64,ha,hb,←cmp_eq];rfl
def infS (s:Bool)(x:Nat):Bool:=(rung x==9218868437227405312) && (sgn x==s)
theorem key_max:key 9218868437227405311=9218868437227405311:=by decide
theorem nan_max:nanB 9218868437227405311=false:=by decide
theorem inf_gt (h:nanB x=false):(FloatKind.f64.format.order x 9218868437227405311==some .gt)=infS false x:=by
 rw[gt_key h nan_max,key_max];unfold nanB at h;simp only[decide_eq_false_iff_not]at h;unfold key infS;rw[Bool.eq_iff_iff];cases sgn x
 ·simp;omega
 ·simp
theorem infS_neg (hx:x<18446744073709551616):infS false (negW x)=infS true x:=by
 obtain⟨h1,h2,_⟩:=negW_facts hx;unfold infS;rw[h1,h2]
 cases sgn x<;>rfl
theorem unary_neg (x:Nat)(W:World):(Op.unary UnOp.neg (.float .f64 x)).run Tryz.prog W= .ok (.float .f64 (negW x)) W:=rfl
theorem math_IsNaN (x:Nat)(w:World):Calls Tryz.prog 41 #[.float .f64 x] w fun e w'=>e= .returned (.bool (nanB x))∧w=w':=by
 go_in;go_wp2;go_ret;exact⟨ret_bool (neq_self x),rfl⟩
theorem math_IsInf_pos (x:Nat)(w:World)(h:nanB x=false):Calls Tryz.prog 42 #[.float .f64 x,.int .i64 1] w fun e w'=>e= .returned (.bool (infS false x))∧w=w':=by
 have H:=qd (inf_gt h);go_in;go_wp2;go_ret;exact⟨ret_bool H.out,rfl⟩
theorem math_IsInf_neg (x:Nat)(hx:x<18446744073709551616)(w:World)(h:nanB x=false):Calls Tryz.prog 42 #[.float .f64 x,.int .i64 (-1)] w fun e w'=>e= .returned (.bool (infS true x))∧w=w':=by
 have H:=qd (show(FloatKind.f64.format.order (negW x) 9218868437227405311==some .gt)=infS true x from by rw[inf_gt (by rw[nan_neg hx];exact h),infS_neg hx]);have hu:=unary_neg x;go_in;go_wp2;go_ret;exact⟨ret_bool H.out,rfl⟩
theorem wrap_sign (hx:x<18446744073709551616):decide (wrap64 (x:Int)<0)=sgn x:=by
 unfold wrap64;unfold sgn;by_cases h:x<9223372036854775808
 ·have e:x/9223372036854775808 % 2=0:=by omega
  rw[e];simp;omega
 ·have e:x/9223372036854775808 % 2=1:=by omega
  rw[e];simp;omega
theorem math_NaN (w:World):Calls Tryz.prog 47 #[] w fun e w'=>e= .returned (.float .f64 9221120237041090561)∧w=w':=by
 have hx:=@run_callFunc_extern Tryz.prog 70 _ Extern.MathFloatBits.float64frombits Tryz.func70 (by kernel_rfl) (by kernel_rfl) (by kernel_rfl) (by kernel_rfl);have hf:=fun(n:Int) (W:World)=>show(Extern.MathFloatBits.float64frombits #[.int .u64 n]).run Tryz.prog W= .ok (.float .f64 n.toNat) W from rfl;go_in;go_wp2;go_ret;exact⟨rfl,rfl⟩
theorem math_Signbit (x:Nat)(hx:x<18446744073709551616)(w:World):Calls Tryz.prog 44 #[.float .f64 x] w fun e w'=>e= .returned (.bool (sgn x))∧w=w':=by
 have HW:=qd (wrap_sign hx);have he:=@run_callFunc_extern Tryz.prog 71 _ Extern.MathFloatBits.float64bits Tryz.func71 (by kernel_rfl) (by kernel_rfl) (by kernel_rfl) (by kernel_rfl);have hb:=fun(b:Nat) (W:World)=>show(Extern.MathFloatBits.float64bits #[.float .f64 b]).run Tryz.prog W= .ok (.int .u64 (b:Int)) W from rfl;go_in;go_wp2;go_ret;exact⟨ret_bool HW.out,rfl⟩
theorem and_rung (hx:x<18446744073709551616):bits .andNot .u64 (x:Int) 9223372036854775808=((rung x:Nat):Int):=by
 have:=u64_andNot_nat x 9223372036854775808 hx (by omega)
 have e:x &&& (18446744073709551615-9223372036854775808)=rung x:=by
  rw[show 18446744073709551615-9223372036854775808=2^63-1 by decide,Nat.and_two_pow_sub_one_eq_mod];rfl
 rw[e]at this;exact this
theorem math_Abs (x:Nat)(hx:x<18446744073709551616)(w:World):Calls Tryz.prog 43 #[.float .f64 x] w fun e w'=>e= .returned (.float .f64 (rung x))∧w=w':=by
 have ha:=and_rung hx;have he:=@run_callFunc_extern Tryz.prog 71 _ Extern.MathFloatBits.float64bits Tryz.func71 (by kernel_rfl) (by kernel_rfl) (by kernel_rfl) (by kernel_rfl);have hb:=fun(b:Nat) (W:World)=>show(Extern.MathFloatBits.float64bits #[.float .f64 b]).run Tryz.prog W= .ok (.int .u64 (b:Int)) W from rfl;have hx':=@run_callFunc_extern Tryz.prog 70 _ Extern.MathFloatBits.float64frombits Tryz.func70 (by kernel_rfl) (by kernel_rfl) (by kernel_rfl) (by kernel_rfl);have hf:=fun(n:Nat) (W:World)=>show(Extern.MathFloatBits.float64frombits #[.int .u64 (n:Int)]).run Tryz.prog W= .ok (.float .f64 n) W from rfl;go_in;go_wp2;go_ret;exact⟨rfl,rfl⟩
theorem shr52 (h:Low x):bits .and .u64 ((x:Int)/4503599627370496) 2047=((x/4503599627370496:Nat):Int):=by
 unfold Low at h
 have e:x/4503599627370496 &&& 2047=x/4503599627370496:=by
  rw[show(2047:Nat)=2^11-1 by decide,Nat.and_two_pow_sub_one_eq_mod];exact Nat.mod_eq_of_lt (by have e11:(2:Nat)^11=2048:=(by decide);omega)
 have:=u64_and_nat (x/4503599627370496) 2047 (by omega) (by omega);rw[e]at this;simpa using this
theorem math_Round_low (x:Nat)(hx:Low x)(w:World):Calls Tryz.prog 45 #[.float .f64 x] w fun e w'=>e= .returned (.float .f64 (roundW x))∧w=w':=by
 have hs:=shr52 hx;have he:=@run_callFunc_extern Tryz.prog 71 _ Extern.MathFloatBits.float64bits Tryz.func71 (by kernel_rfl) (by kernel_rfl) (by kernel_rfl) (by kernel_rfl);have hb:=fun(b:Nat) (W:World)=>show(Extern.MathFloatBits.float64bits #[.float .f64 b]).run Tryz.prog W= .ok (.int .u64 (b:Int)) W from rfl;have hx':=@run_callFunc_extern Tryz.prog 70 _ Extern.MathFloatBits.float64frombits Tryz.func70 (by kernel_rfl) (by kernel_rfl) (by kernel_rfl) (by kernel_rfl);have hf:=fun(n:Nat) (W:World)=>show(Extern.MathFloatBits.float64frombits #[.int .u64 (n:Int)]).run Tryz.prog W= .ok (.float .f64 n) W from rfl;obtain⟨E,hE⟩:∃E,E=x/4503599627370496:=⟨_,rfl⟩;rw[←hE]at hs;have HR:=qd (show roundW x=if E<1023 then(if E=1022 then 4607182418800017408 else 0)else(x+2^(51-(E-1023)))/2^(52-(E-1023))*2^(52-(E-1023))from by unfold roundW;rw[←hE])
 have hE3:E≤1073:=by unfold Low at hx;omega
 have hx64:x<9223372036854775808:=by unfold Low at hx;omega
 by_cases h1:E<1023
 ·have h1':(E:Int)<1023:=by omega
  have ha:bits .and .u64 (x:Int) 9223372036854775808=0:=by
   have:=u64_and_nat x 9223372036854775808 (by omega) (by omega)
   have e:x &&& 9223372036854775808=0:=by
    apply Nat.eq_of_testBit_eq;intro j;rw[Nat.testBit_and,Nat.zero_testBit,show(9223372036854775808:Nat)=2^63 by decide,Nat.testBit_two_pow];by_cases hj:63=j
    ·subst hj;rw[Nat.testBit_lt_two_pow (by have e63:(2:Nat)^63=9223372036854775808:=(by decide);omega)];rfl
    ·simp[hj]
   rw[e]at this;exact this
  have hf0:=fun(W:World)=>show(Extern.MathFloatBits.float64frombits #[.int .u64 0]).run Tryz.prog W= .ok (.float .f64 0) W from rfl;have hf1:=fun(W:World)=>show(Extern.MathFloatBits.float64frombits #[.int .u64 4607182418800017408]).run Tryz.prog W= .ok (.float .f64 4607182418800017408) W from rfl
  have hor:bits .or .u64 0 4607182418800017408=4607182418800017408:=by decide
  by_cases h2:E=1022
  ·have b2:((E:Int)==1022)=true:=by simp;omega
   have HV:=qd (show roundW x=4607182418800017408 from by rw[HR.out,if_pos h1,if_pos h2]);clear hE hx hE3 hx64 h1 h2;go_in;go_wp2;go_ret;exact⟨ret_val (by rw[HV.out];rfl),rfl⟩
  ·have b2:((E:Int)==1022)=false:=by simp;omega
   have HV:=qd (show roundW x=0 from by rw[HR.out,if_pos h1,if_neg h2]);clear hE hx hE3 hx64 h1 h2;go_in;go_wp2;go_ret;exact⟨ret_val (by rw[HV.out];rfl),rfl⟩
 ·have h1':¬(E:Int)<1023:=by omega
  have hE2:(E:Int)<1075:=by omega
  have hE1:(1023:Int)≤(E:Int):=by omega
  obtain⟨d,hd⟩:∃d,d=E-1023:=⟨_,rfl⟩
  have hd50:d≤50:=by omega
  obtain⟨p,hp⟩:∃p,p=2^(51-d):=⟨_,rfl⟩;obtain⟨q,hq⟩:∃q,q=2^(52-d)-1:=⟨_,rfl⟩;have hsh:=half_shift (d:=d) (by omega);have hfr:=frac_shift (d:=d) (by omega);rw[←hp]at hsh;rw[←hq]at hfr
  have hpl:p≤2251799813685248:=by
   rw[hp];have:(2:Nat)^(51-d)≤2^51:=Nat.pow_le_pow_right (by decide) (by omega)
   have e51:(2:Nat)^51=2251799813685248:=by decide
   omega
  have hql:q<4503599627370496:=by
   rw[hq];have h1:=Nat.two_pow_pos (52-d);have:(2:Nat)^(52-d)≤2^52:=Nat.pow_le_pow_right (by decide) (by omega)
   have e52:(2:Nat)^52=4503599627370496:=by decide
   omega
  have HED:=qd (show((E:Int)-1023)=(d:Int)from by omega)
  have hand:bits .andNot .u64 ((x:Int)+(p:Int)) (q:Int)=((roundW x:Nat):Int):=by
   have:=u64_andNot_nat (x+p) q (by omega) (by omega);rw[hq,and_high (x+p) (52-d) (by omega) (by omega),←hq]at this;rw[HR.out,if_neg h1,←hd,←hp,←this];simp
  have hwr:IntKind.u64.wrap ((x:Int)+(p:Int))=(x:Int)+(p:Int):=by
   unfold IntKind.wrap;simp[IntKind.bits,IntKind.signed];omega
  have HSH:=qd hsh;have HFR:=qd hfr;have HAN:=qd hand;have HWR:=qd hwr
  have hd0:(d:Int)≤64:=by omega
  clear hE hx hE3 hx64 h1 hd hd50 hp hq hsh hfr hpl hql hand hwr;go_in;go_upto_region 9 with fail;rw[HED.out];have hsh:=HSH.out;have hwr:=HWR.out;clear hE1 hE2;go_upto_region 10 with fail;have hfr:=HFR.out;have hand:=HAN.out;go_wp2;go_ret;exact⟨rfl,rfl⟩
end Go.Proofs.YtfbljmcjadfkoaaGreatDoor
