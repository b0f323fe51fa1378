/- The plain law of numbers: which texts are which numbers, of base 10 and of base 16. No program in sight. -/
import Derived.Lib.ParseIntB
import Derived.Lib.Strings
import Derived.Lib.ParseIntBCases
import Derived.Laws.Closers25b
namespace Go.Proofs.YtjfgpnapccdnlaaGreatDoor.yS
open Go
variable {n : Nat} {c : UInt8}
abbrev Bytes:=List UInt8
def dR (c:UInt8):Bool:=48≤c.toNat && c.toNat≤57
def eH (c:UInt8):Bool:=dR c||(97≤c.toNat && c.toNat≤102)
def VD (acc:Nat)(c:UInt8):Nat:=acc*10+(c.toNat-48)
def gI (acc:Nat)(l:Bytes):Nat:=l.foldl VD acc
theorem mK (acc:Nat):gI acc []=acc:=rfl
theorem kW (acc:Nat)(c:UInt8)(r:Bytes):gI acc (c::r)=gI (acc*10+(c.toNat-48)) r:=by rw[gI,List.foldl_cons,VD,gI]
def dg (d:Nat):UInt8:=UInt8.ofNat (48+d)
def digits (n:Nat):Bytes:=if n<10 then [dg n]else digits (n/10)++[dg (n % 10)]
decreasing_by omega
theorem iJ (n:Nat)(h:n<10):digits n=[dg n]:=by rw[digits,if_pos h]
theorem ku (n:Nat)(h:¬n<10):digits n=digits (n/10)++[dg (n % 10)]:=by rw[digits,if_neg h]
theorem xI (a:Bytes):∀(acc:Nat) (b:Bytes),gI acc (a++b)=gI (gI acc a) b:=by
 induction a with
 |nil=>intro acc b;rfl
 |cons c a ih=>intro acc b;simp only[List.cons_append,kW,ih]
theorem byte_of {d:Nat}(h:d<10):(dg d).toNat=48+d:=by
 unfold dg;rw[UInt8.toNat_ofNat'];exact Nat.mod_eq_of_lt (by omega)
theorem CQ (n:Nat):gI 0 (digits n)=n:=by
 induction n using Nat.strongRecOn with
 |_ n ih=>
  by_cases h:n<10
  ·rw[iJ n h];simp only[kW,mK];rw[byte_of h];omega
  ·rw[ku n h,xI,ih (n/10) (by omega)];simp only[kW,mK];rw[byte_of (Nat.mod_lt _ (by omega))];omega
theorem Tn (n:Nat):∀b∈digits n,dR b=true:=by
 induction n using Nat.strongRecOn with
 |_ n ih=>
  intro b hb;by_cases h:n<10
  ·rw[iJ n h]at hb
   obtain rfl:b=_:=by simpa using hb
   unfold dR;rw[byte_of h];simp;omega
  ·rw[ku n h]at hb;rcases List.mem_append.1 hb with hb|hb
   ·exact ih (n/10) (by omega) b hb
   ·obtain rfl:b=_:=by simpa using hb
    unfold dR;rw[byte_of (Nat.mod_lt _ (by omega))];simp;omega
theorem CR (n:Nat):digits n≠[]:=by
 by_cases h:n<10
 ·rw[iJ n h];simp
 ·rw[ku n h];simp
def nH:Bytes→Bool
 |c::_::_=>c !=48
 |_=>true
theorem Ck (a:Bytes)(ha:a≠[])(h0:a≠[48])(c:UInt8):nH (a++[c])=nH a:=by
 cases a with
 |nil=>exact absurd rfl ha
 |cons x r=>
  cases r with
  |nil=>simp[nH];intro e;exact h0 (by rw[e])
  |cons y r=>simp[nH]
theorem MJ (n:Nat):nH (digits n)=true∧(digits n=[48]→n=0):=by
 induction n using Nat.strongRecOn with
 |_ n ih=>
  by_cases h:n<10
  ·rw[iJ n h];refine⟨rfl,fun e=> ?_⟩;have:=congrArg UInt8.toNat (List.singleton_inj.1 e);rw[byte_of h]at this;have e48:(48:UInt8).toNat=48:=rfl;omega
  ·obtain⟨i1,i2⟩:=ih (n/10) (by omega);rw[ku n h];refine⟨?_,fun e=> ?_⟩
   ·rw[Ck _ (CR _) (fun e=>by have:=i2 e;omega)];exact i1
   ·have:=congrArg List.length e;simp at this;exact absurd this (CR _)
theorem NJ:∀(l:Bytes) (acc:Nat),acc*10^l.length≤gI acc l
 | [],acc=>by simp[mK]
 |c::r,acc=>by
  have:=NJ r (acc*10+(c.toNat-48));simp only[kW,List.length_cons];refine Nat.le_trans ?_ this;rw[Nat.pow_succ,←Nat.mul_assoc,Nat.mul_right_comm];exact Nat.mul_le_mul_right _ (by omega)
theorem Hu:∀(k:Nat) (l:Bytes),l.length=k→l≠[]→(∀b∈l,dR b=true)→nH l=true→digits (gI 0 l)=l:=by
 intro k
 induction k with
 |zero=>intro l hl hne;exact absurd (List.length_eq_zero_iff.1 hl) hne
 |succ k ih=>
  intro l hl hne hall hz;obtain⟨a,c,rfl⟩:∃a c,l=a++[c]:=⟨l.dropLast,l.getLast hne,(List.dropLast_concat_getLast hne).symm⟩;have hc:dR c=true:=hall c (by simp);unfold dR at hc;simp only[Bool.and_eq_true,decide_eq_true_eq]at hc
  have hcb:∀d,d=c.toNat-48→dg d=c:=by
   rintro d rfl;unfold dg;rw[show 48+(c.toNat-48)=c.toNat by omega];simp
  by_cases ha:a=[]
  ·subst ha;simp only[List.nil_append,kW,mK];rw[iJ _ (by omega),hcb _ (by omega)]
  ·have h0:a≠[48]:=by rintro rfl;simp[nH]at hz
   rw[Ck a ha h0]at hz;have hih:=ih a (by simpa using hl) ha (fun b hb=>hall b (by simp[hb])) hz
   have hpos:0<gI 0 a:=by
    rcases Nat.eq_zero_or_pos (gI 0 a)with h|h
    ·rw[h,iJ 0 (by omega)]at hih;exact absurd hih.symm h0
    ·exact h
   rw[xI];simp only[kW,mK];rw[ku _ (by omega),show(gI 0 a*10+(c.toNat-48))/10=gI 0 a by omega,hih,hcb _ (by omega)]
theorem digits_length:∀(k n:Nat),n<10^(k+1)→(digits n).length≤k+1
 |0,n,h=>by rw[iJ n (by simpa using h)];simp
 |k+1,n,h=>by
  by_cases h1:n<10
  ·rw[iJ n h1];simp
  ·rw[ku n h1,List.length_append];have:=digits_length k (n/10) (by rw[Nat.div_lt_iff_lt_mul (by omega)];rw[Nat.pow_succ]at h;exact h);simp;omega
theorem Hw:∀(l:Bytes) (acc u:Nat),Lib.parseUint10 acc l= .ok u→(∀b∈l,dR b=true)∧u=gI acc l
 | [],acc,u,h=>by simp[Lib.parseUint10]at h;simp[mK,h]
 |c::r,acc,u,h=>by
  rw[Lib.parseUint10]at h;split at h
  ·next hd=>
   split at h
   ·cases h
   ·split at h
    ·cases h
    ·obtain⟨h1,h2⟩:=Hw r _ u h;refine⟨fun b hb=> ?_,by rw[h2];rfl⟩;rcases List.mem_cons.1 hb with e|hb
     ·rw[e];unfold dR;simp;exact hd
     ·exact h1 b hb
  ·cases h
theorem Hy:∀(l:Bytes) (acc:Nat),(∀b∈l,dR b=true)→gI acc l<18446744073709551616→Lib.parseUint10 acc l= .ok (gI acc l)
 | [],acc,_,_=>rfl
 |c::r,acc,hall,hlt=>by
  have hc:=hall c (by simp);unfold dR at hc;simp only[Bool.and_eq_true,decide_eq_true_eq]at hc;have hge:=NJ r (acc*10+(c.toNat-48));have hp:1≤10^r.length:=Nat.one_le_iff_ne_zero.2 (by simp);have h1:acc*10+(c.toNat-48)≤(acc*10+(c.toNat-48))*10^r.length:=Nat.le_mul_of_pos_right _ hp;simp only[kW]at hlt⊢;rw[Lib.parseUint10,if_pos hc,if_neg (by omega),if_neg (by omega)];exact Hy r _ (fun b hb=>hall b (by simp[hb])) hlt
def dec (l:Bytes):Option Nat:=if l≠[]∧(∀b∈l,dR b=true)∧nH l=true∧gI 0 l<18446744073709551616 then some (gI 0 l)else none
theorem xJ {l:Bytes}(h:dec l=some n):l≠[]∧(∀b∈l,dR b=true)∧nH l=true∧n=gI 0 l∧n<18446744073709551616:=by
 unfold dec at h;split at h
 ·next hh=>obtain⟨a,b,c,d⟩:=hh;injection h with h;exact⟨a,b,c,h.symm,by omega⟩
 ·cases h
theorem YA {l:Bytes}(h:dec l=none):¬(l≠[]∧(∀b∈l,dR b=true)∧nH l=true∧gI 0 l<18446744073709551616):=by
 unfold dec at h;split at h
 ·cases h
 ·next hh=>exact hh
theorem VE (l:Bytes)(hne:l≠[]):Lib.parseUintB 64 l=Lib.parseUint10 0 l:=by
 rw[Lib.parseUintB,if_neg hne,show(2:Nat)^64-1=18446744073709551615 by decide,Lib.parseUintM_64]
theorem Tp (n:Nat)(h:n<18446744073709551616):dec (digits n)=some n:=by
 unfold dec;rw[if_pos ⟨CR n,Tn n,(MJ n).1,by rw[CQ];exact h⟩,CQ]
theorem abG (l:Bytes)(hall:∀b∈l,dR b=true)(hne:l≠[]):(digits (gI 0 l % 18446744073709551616)=l↔∃n,dec l=some n)∧∀n,dec l=some n→gI 0 l % 18446744073709551616=n:=by
 refine⟨⟨fun h=> ?_,fun⟨n,h⟩=> ?_⟩,fun n h=> ?_⟩
 ·have h1:=Tp (gI 0 l % 18446744073709551616) (Nat.mod_lt _ (by decide));rw[h]at h1;exact⟨_,h1⟩
 ·obtain⟨_,_,hz,hv,hlt⟩:=xJ h;rw[←hv,Nat.mod_eq_of_lt hlt,hv];exact Hu _ l rfl hne hall hz
 ·obtain⟨_,_,hz,hv,hlt⟩:=xJ h;rw[←hv,Nat.mod_eq_of_lt hlt]
theorem Tq {l:Bytes}(h:dec l=some n):l.length≤20:=by
 obtain⟨hne,hall,hz,hv,hlt⟩:=xJ h;rw[←Hu _ l rfl hne hall hz,←hv];exact digits_length 19 n (by omega)
def kC (c:UInt8):Nat:=if c.toNat≤57 then c.toNat-48 else c.toNat-87
def VF (acc:Nat)(c:UInt8):Nat:=acc*16+kC c
def nX (acc:Nat)(l:Bytes):Nat:=l.foldl VF acc
theorem qQ (acc:Nat):nX acc []=acc:=rfl
theorem mX (acc:Nat)(c:UInt8)(r:Bytes):nX acc (c::r)=nX (acc*16+kC c) r:=by rw[nX,List.foldl_cons,VF,nX]
theorem CS (a:Bytes):∀(acc:Nat) (b:Bytes),nX acc (a++b)=nX (nX acc a) b:=by
 induction a with
 |nil=>intro acc b;rfl
 |cons c a ih=>intro acc b;simp only[List.cons_append,mX,ih]
def hex (l:Bytes):Option Nat:=if l≠[]∧(∀b∈l,eH b=true)∧l.length≤16 then some (nX 0 l)else none
theorem Bb {l:Bytes}(h:hex l=some n):l≠[]∧(∀b∈l,eH b=true)∧l.length≤16∧n=nX 0 l:=by
 unfold hex at h;split at h
 ·next hh=>obtain⟨a,b,c⟩:=hh;injection h with h;exact⟨a,b,c,h.symm⟩
 ·cases h
theorem YB {l:Bytes}(h:hex l=none):¬(l≠[]∧(∀b∈l,eH b=true)∧l.length≤16):=by
 unfold hex at h;split at h
 ·cases h
 ·next hh=>exact hh
theorem ED (h:eH c=true):kC c<16:=by
 unfold eH dR at h;simp only[Bool.or_eq_true,Bool.and_eq_true,decide_eq_true_eq]at h;unfold kC
 split<;>omega
theorem Gf:∀(l:Bytes) (acc k:Nat),(∀b∈l,eH b=true)→acc<16^k→nX acc l<16^(k+l.length)
 | [],acc,k,_,h=>by simpa[qQ]using h
 |c::r,acc,k,hall,h=>by
  have:=ED (hall c (by simp));simp only[mX,List.length_cons];rw[show k+(r.length+1)=(k+1)+r.length by omega];refine Gf r _ (k+1) (fun b hb=>hall b (by simp[hb])) ?_;rw[Nat.pow_succ];omega
theorem acU {l:Bytes}(h:hex l=some n):n<18446744073709551616:=by
 obtain⟨_,hall,hlen,rfl⟩:=Bb h;have h1:=Gf l 0 0 hall (by decide);refine Nat.lt_of_lt_of_le h1 ?_;rw[Nat.zero_add];exact Nat.pow_le_pow_right (n:=16) (by decide) hlen
def zZ (c:UInt8):Option Nat:=
 if dR c then some (c.toNat-48)else
  if 97≤bits .or .u8 (c.toNat:Int) 32∧bits .or .u8 (c.toNat:Int) 32≤102 then some ((bits .or .u8 (c.toNat:Int) 32).toNat-87)else none
def fJ (acc:Nat):Bytes→Lib.NumEnd Nat
 | []=> .ok acc
 |c::r=>match zZ c with
  |none=>Lib.NumEnd.syntax
  |some d=>if 1152921504606846976≤acc then .range else fJ (acc*16+d) r
theorem abH (h:eH c=true):zZ c=some (kC c):=by
 unfold zZ;by_cases hd:dR c=true
 ·rw[if_pos hd];unfold dR at hd;simp only[Bool.and_eq_true,decide_eq_true_eq]at hd;rw[kC,if_pos hd.2]
 ·rw[if_neg hd];unfold eH at h;simp only[hd,Bool.false_or,Bool.and_eq_true,decide_eq_true_eq]at h
  have key:∀k:Nat,97≤k→k≤102→bits .or .u8 (k:Int) 32=(k:Int):=by
   intro k h1 h2
   have:k=97∨k=98∨k=99∨k=100∨k=101∨k=102:=by omega
   rcases this with rfl|rfl|rfl|rfl|rfl|rfl<;>decide
  rw[key _ h.1 h.2,if_pos (by omega),kC,if_neg (by omega)];rfl
theorem Hz:∀(l:Bytes) (acc k:Nat),(∀b∈l,eH b=true)→acc<16^k→k+l.length≤16→fJ acc l= .ok (nX acc l)
 | [],acc,k,_,_,_=>rfl
 |c::r,acc,k,hall,hk,hlen=>by
  have hc:=hall c (by simp);have:=ED hc
  have h60:acc<1152921504606846976:=by
   refine Nat.lt_of_lt_of_le hk ?_
   have:(1152921504606846976:Nat)=16^15:=by decide
   rw[this];simp only[List.length_cons]at hlen;exact Nat.pow_le_pow_right (n:=16) (by decide) (by omega)
  rw[fJ,abH hc];simp only[mX];rw[if_neg (by omega)];refine Hz r _ (k+1) (fun b hb=>hall b (by simp[hb])) (by rw[Nat.pow_succ];omega) (by simp only[List.length_cons]at hlen;omega)
theorem QL {l:Bytes}(h:hex l=some n):fJ 0 l= .ok n:=by
 obtain⟨_,hall,hlen,rfl⟩:=Bb h;exact Hz l 0 0 hall (by decide) (by omega)
def numOf (l:Bytes):Option Nat:=if Lib.hasPrefix l [48,120]=true then hex (Lib.trimPrefix l [48,120])else dec l
theorem dec_lt {l:Bytes}(h:dec l=some n):n<18446744073709551616:=(xJ h).2.2.2.2
theorem xK {l:Bytes}(h:numOf l=some n):n<18446744073709551616:=by
 unfold numOf at h;split at h
 ·exact acU h
 ·exact dec_lt h
end Go.Proofs.YtjfgpnapccdnlaaGreatDoor.yS
