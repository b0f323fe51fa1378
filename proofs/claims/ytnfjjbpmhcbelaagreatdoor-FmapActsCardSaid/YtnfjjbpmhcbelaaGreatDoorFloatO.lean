/- The plain law of the order of floats: by their words. No program in sight. -/
import Derived.Test.YtnfjjbpmhcbelaaGreatDoorFloatP
namespace Go.Proofs.YtnfjjbpmhcbelaaGreatDoor.kM
open Ieee
def value (r:Nat):Nat:=if r<4503599627370496 then r else(4503599627370496+r % 4503599627370496)*2^(r/4503599627370496-1)
theorem GU (r:Nat):value r<value (r+1):=by
 unfold value;by_cases h:r+1<4503599627370496
 ·rw[if_pos (by omega),if_pos h];omega
 ·rw[if_neg h];by_cases h2:r<4503599627370496
  ·rw[if_pos h2]
   have e1:(r+1) % 4503599627370496=0:=by omega
   have e2:(r+1)/4503599627370496=1:=by omega
   rw[e1,e2];simp;omega
  ·rw[if_neg h2];by_cases h3:r % 4503599627370496=4503599627370495
   ·have e1:(r+1) % 4503599627370496=0:=by omega
    have e2:(r+1)/4503599627370496-1=(r/4503599627370496-1)+1:=by omega
    rw[h3,e1,e2,Nat.pow_succ];have:=Nat.two_pow_pos (r/4503599627370496-1);generalize 2^(r/4503599627370496-1)=p at*;omega
   ·have e1:(r+1) % 4503599627370496=r % 4503599627370496+1:=by omega
    have e2:(r+1)/4503599627370496=r/4503599627370496:=by omega
    rw[e1,e2];exact Nat.mul_lt_mul_of_pos_right (by omega) (Nat.two_pow_pos _)
theorem AO {r s:Nat}(h:r<s):value r<value s:=by
 induction s with
 |zero=>omega
 |succ s ih=>
  by_cases e:r=s
  ·subst e;exact GU r
  ·exact Nat.lt_trans (ih (by omega)) (GU s)
theorem RU:value 0=0:=rfl
def jX (w:Nat):Bool:=w/9223372036854775808 % 2==1
def rung (w:Nat):Nat:=w % 9223372036854775808
def iQ (w:Nat):Bool:=decide (9218868437227405312<rung w)
def key (w:Nat):Int:=if jX w then-(rung w:Int)else(rung w:Int)
theorem FR {w:Nat}(h:iQ w=true):double.read w= .nan (jX w) (rung w-9218868437227405312):=by
 unfold iQ at h;have h':=of_decide_eq_true h;unfold rung at h';unfold Format.read jX rung;simp only[MF,FQ,RQ];rw[if_neg (by omega),if_neg (by omega),if_neg (by omega)]
theorem FT {w:Nat}(h:rung w=9218868437227405312):double.read w= .infinity (jX w):=by
 unfold rung at h;unfold Format.read jX;simp only[MF,FQ,RQ];rw[if_neg (by omega),if_neg (by omega),if_pos h]
theorem FU {w:Nat}(h:rung w<9218868437227405312):∃(m:Nat) (d:Nat),double.read w= .number (jX w) m (-1074+(d:Int))∧m*2^d=value (rung w):=by
 unfold rung at h;unfold Format.read jX rung value;simp only[MF,FQ,RQ,aaN];by_cases hs:w % 9223372036854775808<4503599627370496
 ·rw[if_pos hs,if_pos hs];exact⟨_,0,rfl,by simp⟩
 ·rw[if_neg hs,if_pos h,if_neg hs];exact⟨_,_,rfl,rfl⟩
theorem PK (s t:Bool)(a b c:Nat)(hc:0<c):
  compare (if s then-((a*c:Nat):Int)else((a*c:Nat):Int)) (if t then-((b*c:Nat):Int)else((b*c:Nat):Int))=compare (if s then-(a:Int)else(a:Int)) (if t then-(b:Int)else(b:Int)):=by
 have H:∀u v:Int,compare (u*c) (v*c)=compare u v:=by
  intro u v
  have hc':(0:Int)<(c:Int):=by omega
  rcases Int.lt_trichotomy u v with g|g|g
  ·rw[Int.compare_eq_lt.2 g,Int.compare_eq_lt.2 (Int.mul_lt_mul_of_pos_right g hc')]
  ·rw[g,Int.compare_eq_eq.2 rfl,Int.compare_eq_eq.2 rfl]
  ·rw[Int.compare_eq_gt.2 g,Int.compare_eq_gt.2 (Int.mul_lt_mul_of_pos_right g hc')]
 have e:∀(s:Bool) (a:Nat),(if s then-((a*c:Nat):Int)else((a*c:Nat):Int))=(if s then-(a:Int)else(a:Int))*c:=by
  intro s a
  cases s<;>simp[Int.natCast_mul]
  rw[Int.neg_mul]
 rw[e,e,H]
theorem PN (s t:Bool)(r q:Nat):compare (if s then-(value r:Int)else(value r:Int)) (if t then-(value q:Int)else(value q:Int))=compare (if s then-(r:Int)else(r:Int)) (if t then-(q:Int)else(q:Int)):=by
 have h1:∀a,0<a→0<value a:=fun a h=>by have:=AO h;rw[RU]at this;exact this
 have h0:value 0=0:=rfl;have hm:=AO (r:=r) (s:=q);have hm':=AO (r:=q) (s:=r)
 have hr:r=0∧value r=0∨0<r∧0<value r:=by
  by_cases e:r=0
  ·subst e;exact .inl ⟨rfl,h0⟩
  ·exact .inr ⟨by omega,h1 r (by omega)⟩
 have hq:q=0∧value q=0∨0<q∧0<value q:=by
  by_cases e:q=0
  ·subst e;exact .inl ⟨rfl,h0⟩
  ·exact .inr ⟨by omega,h1 q (by omega)⟩
 have heq:r=q→value r=value q:=fun e=>by rw[e]
 generalize value r=a at*;generalize value q=b at*
 have key:∀u v x y:Int,((u<v↔x<y)∧(u=v↔x=y))→compare u v=compare x y:=by
  rintro u v x y ⟨g1,g2⟩;rcases Int.lt_trichotomy u v with g|g|g
  ·rw[Int.compare_eq_lt.2 g,Int.compare_eq_lt.2 (g1.1 g)]
  ·rw[Int.compare_eq_eq.2 g,Int.compare_eq_eq.2 (g2.1 g)]
  ·have e1:¬x<y:=fun e=>by have:=g1.2 e;omega
   have e2:¬x=y:=fun e=>by have:=g2.2 e;omega
   rw[Int.compare_eq_gt.2 g,Int.compare_eq_gt.2 (by omega)]
 apply key;rcases Nat.lt_trichotomy r q with g|g|g
 ·have:=hm g
  cases s<;>cases t<;>simp<;>omega
 ·have:=heq g
  cases s<;>cases t<;>simp<;>omega
 ·have:=hm' g
  cases s<;>cases t<;>simp<;>omega
theorem Uo (a b:Nat):double.order a b=if iQ a||iQ b then none else some (compare (key a) (key b)):=by
 unfold Format.order
 cases hna:iQ a with
 |true=>rw[FR hna];rfl
 |false=>
  cases hnb:iQ b with
  |true=>
   rw[FR hnb];simp only[Bool.or_true,if_true]
   cases double.read a<;>rfl
  |false=>
   have ha:rung a≤9218868437227405312:=by have:=of_decide_eq_false hna;omega
   have hb:rung b≤9218868437227405312:=by have:=of_decide_eq_false hnb;omega
   simp only[Bool.or_self,Bool.false_eq_true,if_false];by_cases ea:rung a=9218868437227405312
   ·rw[FT ea];by_cases eb:rung b=9218868437227405312
    ·rw[FT eb];unfold key Datum.order;rw[ea,eb]
     cases jX a<;>cases jX b<;>rfl
    ·obtain⟨n,d,hr,_⟩:=FU (w:=b) (by omega);rw[hr];unfold key Datum.order;rw[ea];cases jX a
     ·simp only[Bool.false_eq_true,if_false];congr 1;symm;rw[Int.compare_eq_gt]
      split<;>omega
     ·simp only[if_true];congr 1;symm;rw[Int.compare_eq_lt]
      split<;>omega
   ·obtain⟨m,c,hra,hva⟩:=FU (w:=a) (by omega);rw[hra];by_cases eb:rung b=9218868437227405312
    ·rw[FT eb];unfold key Datum.order;rw[eb];cases jX b
     ·simp only[Bool.false_eq_true,if_false];congr 1;symm;rw[Int.compare_eq_lt]
      split<;>omega
     ·simp only[if_true];congr 1;symm;rw[Int.compare_eq_gt]
      split<;>omega
    ·obtain⟨n,d,hrb,hvb⟩:=FU (w:=b) (by omega);rw[hrb];unfold Datum.order key;simp only;congr 1;rw[←PN (jX a) (jX b) (rung a) (rung b),←hva,←hvb];unfold signed;simp only[Nat.shiftLeft_eq];obtain⟨x,hx⟩:∃x,x=min c d:=⟨_,rfl⟩
     have e0:min (-1074+(c:Int)) (-1074+(d:Int))= -1074+(x:Int):=by omega
     rw[e0]
     have e1:(-1074+(c:Int)-(-1074+(x:Int))).toNat=c-x:=by omega
     have e2:(-1074+(d:Int)-(-1074+(x:Int))).toNat=d-x:=by omega
     rw[e1,e2]
     have e3:m*2^c=m*2^(c-x)*2^x:=by rw[Nat.mul_assoc,←Nat.pow_add,show c-x+x=c by omega]
     have e4:n*2^d=n*2^(d-x)*2^x:=by rw[Nat.mul_assoc,←Nat.pow_add,show d-x+x=d by omega]
     rw[e3,e4];exact(PK _ _ _ _ _ (Nat.two_pow_pos x)).symm
end Go.Proofs.YtnfjjbpmhcbelaaGreatDoor.kM
