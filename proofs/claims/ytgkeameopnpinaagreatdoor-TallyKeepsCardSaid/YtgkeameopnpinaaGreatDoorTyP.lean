/- The plain law of sums and products of floats: zero added, a number and its opposite. No program in sight. -/
import Derived.Test.YtgkeameopnpinaaGreatDoorFloatO
namespace Go.Proofs.YtgkeameopnpinaaGreatDoor.lH
open Ieee
variable {a b w : Nat}
theorem abQ (s:Bool)(r:Nat):double.word s r=if s then 9223372036854775808+r else r:=by unfold Format.word;rw[Gp]
theorem nearest_value (s:Bool)(r:Nat)(h:r<9218868437227405312):double.nearest s (value r) (-1074)=double.word s r:=by
 unfold Format.nearest;simp only[EH,KE,aae,d_frac];by_cases h0:r=0
 ·subst h0;rw[Rz,if_pos rfl]
 by_cases hs:r<4503599627370496
 ·have hv:value r=r:=by unfold value;rw[if_pos hs]
  have hl:=log_le (m:=r) (k:=51) (by omega) (by simpa using hs);rw[hv,if_neg h0]
  have e1:max (-1074+(r.log2:Int)-(52:Nat)) (-1074)= -1074:=by omega
  rw[e1,show(-1074- -1074:Int).toNat=0 from rfl,Nat.shiftLeft_zero];have hc:=cut_exact Toward.even s r 0 (by omega);rw[Nat.pow_zero,Nat.mul_one]at hc;rw[hc,Nat.zero_mul,Nat.zero_add,Nat.min_eq_left (by omega)]
 ·obtain⟨k,hk⟩:∃k,r/4503599627370496-1=k:=⟨_,rfl⟩
  have hv:value r=(4503599627370496+r % 4503599627370496)*2^k:=by unfold value;rw[if_neg hs,hk]
  obtain⟨m,hm⟩:∃m,m=4503599627370496+r % 4503599627370496:=⟨_,rfl⟩;rw[hv,←hm];have hmlt:r % 4503599627370496<4503599627370496:=Nat.mod_lt _ (by decide)
  have hlm:m.log2=52:=by
   have h53:(2:Nat)^(52+1)=9007199254740992:=by decide
   have h1:=log_le (m:=m) (k:=52) (by omega) (by rw[h53];omega)
   have h2:=(pow_of_log (m:=m) (by omega)).2;rcases Nat.lt_or_ge m.log2 52 with hl|hl
   ·have h3:(2:Nat)^(m.log2+1)≤2^52:=Nat.pow_le_pow_right (by decide) (by omega)
    have:(2:Nat)^52=4503599627370496:=by decide
    omega
   ·omega
  have hlk:=log_mul_pow m k (by omega);rw[hlm]at hlk;have hp:=Nat.two_pow_pos k
  have hne:m*2^k≠0:=by have:=Nat.mul_pos (show 0<m by omega) hp;omega
  rw[if_neg hne,hlk]
  have e1:max (-1074+((52+k:Nat):Int)-(52:Nat)) (-1074)= -1074+(k:Int):=by omega
  rw[e1]
  have e2:(-1074-(-1074+(k:Int))).toNat=0:=by omega
  have e3:(-1074+(k:Int)- -1074).toNat=k:=by omega
  rw[e2,e3,Nat.shiftLeft_zero,cut_exact Toward.even s m k (by omega)]
  have e4:k*4503599627370496+m=r:=by omega
  rw[e4,Nat.min_eq_left (by omega)]
def gV (w:Nat):Bool:=decide (rung w<9218868437227405312)
theorem CR (h:gV w=true):∃(m d:Nat),double.read w= .number (oW w) m (-1074+(d:Int))∧m*2^d=value (rung w):=Ag (by simpa[gV]using h)
theorem word_self (h:w<18446744073709551616):double.word (oW w) (rung w)=w:=by
 rw[abQ];unfold oW rung;by_cases hs:w<9223372036854775808
 ·rw[show w/9223372036854775808=0 by omega,Nat.mod_eq_of_lt hs];rfl
 ·rw[show w/9223372036854775808=1 by omega];show 9223372036854775808+w % 9223372036854775808=w;omega
theorem add_fin (ha:gV a=true)(hb:gV b=true):∃r,double.add a b=some r:=by
 obtain⟨m,d,h1,_⟩:=CR ha;obtain⟨n,e,h2,_⟩:=CR hb;unfold Format.add;rw[h1,h2];exact⟨_,rfl⟩
theorem aah (ha:gV a=true)(hb:gV b=true):∃r,double.mul a b=some r:=by
 obtain⟨m,d,h1,_⟩:=CR ha;obtain⟨n,e,h2,_⟩:=CR hb;unfold Format.mul;rw[h1,h2];exact⟨_,rfl⟩
theorem read_0:double.read 0= .number false 0 (-1074):=by decide
theorem zero_add_w {f:Nat}(hf:f<18446744073709551616)(h:gV f=true):double.add 0 f=some (if rung f=0 then 0 else f):=by
 obtain⟨m,d,h1,h2⟩:=CR h;unfold Format.add;rw[h1,read_0]
 have hb:min (-1074:Int) (-1074+(d:Int))= -1074:=by omega
 have e1:((-1074:Int)- -1074).toNat=0:=rfl
 have e2:(-1074+(d:Int)- -1074).toNat=d:=by omega
 unfold Datum.sum;simp only[hb,e1,e2,Option.map_some,Format.write];have hz:signed false 0 0=0:=rfl
 have hm:signed (oW f) m d=if oW f then-(value (rung f):Int)else(value (rung f):Int):=by unfold signed;rw[Nat.shiftLeft_eq,h2]
 rw[hz,hm,Int.zero_add];by_cases h0:rung f=0
 ·rw[if_pos h0,h0,Rz]
  have:(if oW f=true then-((0:Nat):Int)else((0:Nat):Int))=0:=by split<;>rfl
  rw[this,if_pos rfl];rfl
 ·rw[if_neg h0]
  have hv:0<value (rung f):=by have:=Af (r:=0) (s:=rung f) (by omega);rw[Rz]at this;exact this
  have hr:rung f<9218868437227405312:=by simpa[gV]using h
  refine congrArg some (Eq.trans ?_ (word_self hf))
  cases hs:oW f with
  |true=>
   simp only[if_true];rw[if_neg (by omega),show decide (-(value (rung f):Int)<0)=true from decide_eq_true (by omega),Int.natAbs_neg,Int.natAbs_natCast,nearest_value true _ hr]
  |false=>
   simp only[Bool.false_eq_true,if_false];rw[if_neg (by omega),show decide ((value (rung f):Int)<0)=false from decide_eq_false (by omega),Int.natAbs_natCast,nearest_value false _ hr]
theorem add_opposite {v:Nat}(h:v<9218868437227405312):double.add v (9223372036854775808+v)=some 0:=by
 have hr:∀s:Bool,double.read (if s then 9223372036854775808+v else v)=if v<4503599627370496 then .number s v (-1074)else .number s (4503599627370496+v % 4503599627370496) (-1074+((v/4503599627370496-1:Nat):Int)):=by
  intro s;unfold Format.read;simp only[Gp,EH,KE,aae];cases s
  case' true=>
   simp only[if_true];rw[show(9223372036854775808+v) % 9223372036854775808=v by omega,show(9223372036854775808+v)/9223372036854775808=1 by omega]
  case' false=>
   simp only[Bool.false_eq_true,if_false];rw[show v % 9223372036854775808=v by omega,show v/9223372036854775808=0 by omega]
  all_goals
   by_cases hs:v<4503599627370496
   ·rw[if_pos hs,if_pos hs];rfl
   ·rw[if_neg hs,if_pos h,if_neg hs];rfl
 have h1:=hr false;have h2:=hr true;simp only[if_true,Bool.false_eq_true,if_false]at h1 h2
 have key:∀(m:Nat) (p:Int),((Datum.number false m p).sum (.number true m p)).map double.write=some 0:=by
  intro m p;unfold Datum.sum;simp only[Int.min_self,Int.sub_self,Option.map_some]
  have hz:signed false m (0:Int).toNat+signed true m (0:Int).toNat=0:=by unfold signed;simp;omega
  rw[hz,if_pos rfl];rfl
 unfold Format.add;rw[h1,h2];by_cases hs:v<4503599627370496
 ·rw[if_pos hs,if_pos hs];exact key _ _
 ·rw[if_neg hs,if_neg hs];exact key _ _
theorem JL (s:Bool)(y:Nat)(h:y<9223372036854775808):rung (double.word s y)=y:=by
 rw[abQ];unfold rung
 cases s with
 |true=>rw[if_pos rfl];omega
 |false=>rw[if_neg (by decide)];omega
theorem Nw (s:Bool)(m:Nat)(p:Int):rung (double.nearest s m p)≤9218868437227405312:=by
 unfold Format.nearest;simp only[KE];split
 ·rw[JL _ _ (by decide)];decide
 ·rw[JL _ _ (by omega)];omega
theorem XR {r:Nat}(ha:gV a=true)(hb:gV b=true)(h:double.mul a b=some r):rung r≤9218868437227405312:=by
 obtain⟨m,d,h1,_⟩:=CR ha;obtain⟨n,e,h2,_⟩:=CR hb;unfold Format.mul at h;rw[h1,h2]at h;obtain rfl:=Option.some.inj h;exact Nw _ _ _
end Go.Proofs.YtgkeameopnpinaaGreatDoor.lH
