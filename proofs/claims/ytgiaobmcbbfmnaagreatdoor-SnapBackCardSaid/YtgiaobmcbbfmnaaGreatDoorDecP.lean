/- The plain law of numbers: which texts are which numbers, of base 10 and of base 16. No program in sight. -/
import Derived.Lib.ParseIntB
import Derived.Lib.Strings
import Derived.Lib.ParseIntBCases
import Derived.Laws.Closers25b
namespace Go.Proofs.YtgiaobmcbbfmnaaGreatDoor.EP
open Go
variable {n : Nat} {c : UInt8}
abbrev Bytes:=List UInt8
def iJ (c:UInt8):Bool:=48≤c.toNat && c.toNat≤57
def jC (c:UInt8):Bool:=iJ c||(97≤c.toNat && c.toNat≤102)
def U5 (acc:Nat)(c:UInt8):Nat:=acc*10+(c.toNat-48)
def pF (acc:Nat)(l:Bytes):Nat:=l.foldl U5 acc
theorem Kj (acc:Nat):pF acc []=acc:=rfl
theorem G8 (acc:Nat)(c:UInt8)(r:Bytes):pF acc (c::r)=pF (acc*10+(c.toNat-48)) r:=by rw[pF,List.foldl_cons,U5,pF]
def dg (d:Nat):UInt8:=UInt8.ofNat (48+d)
def digits (n:Nat):Bytes:=if n<10 then [dg n]else digits (n/10)++[dg (n % 10)]
decreasing_by omega
def CO:Bytes→Bool
 |c::_::_=>c !=48
 |_=>true
theorem Ng:∀(l:Bytes) (acc:Nat),acc*10^l.length≤pF acc l
 | [],acc=>by simp[Kj]
 |c::r,acc=>by
  have:=Ng r (acc*10+(c.toNat-48));simp only[G8,List.length_cons];refine Nat.le_trans ?_ this;rw[Nat.pow_succ,←Nat.mul_assoc,Nat.mul_right_comm];exact Nat.mul_le_mul_right _ (by omega)
theorem G9:∀(l:Bytes) (acc u:Nat),Lib.parseUint10 acc l= .ok u→(∀b∈l,iJ b=true)∧u=pF acc l
 | [],acc,u,h=>by simp[Lib.parseUint10]at h;simp[Kj,h]
 |c::r,acc,u,h=>by
  rw[Lib.parseUint10]at h;split at h
  ·next hd=>
   split at h
   ·cases h
   ·split at h
    ·cases h
    ·obtain⟨h1,h2⟩:=G9 r _ u h;refine⟨fun b hb=> ?_,by rw[h2];rfl⟩;rcases List.mem_cons.1 hb with e|hb
     ·rw[e];unfold iJ;simp;exact hd
     ·exact h1 b hb
  ·cases h
theorem He:∀(l:Bytes) (acc:Nat),(∀b∈l,iJ b=true)→pF acc l<18446744073709551616→Lib.parseUint10 acc l= .ok (pF acc l)
 | [],acc,_,_=>rfl
 |c::r,acc,hall,hlt=>by
  have hc:=hall c (by simp);unfold iJ at hc;simp only[Bool.and_eq_true,decide_eq_true_eq]at hc;have hge:=Ng r (acc*10+(c.toNat-48));have hp:1≤10^r.length:=Nat.one_le_iff_ne_zero.2 (by simp);have h1:acc*10+(c.toNat-48)≤(acc*10+(c.toNat-48))*10^r.length:=Nat.le_mul_of_pos_right _ hp;simp only[G8]at hlt⊢;rw[Lib.parseUint10,if_pos hc,if_neg (by omega),if_neg (by omega)];exact He r _ (fun b hb=>hall b (by simp[hb])) hlt
def dec (l:Bytes):Option Nat:=if l≠[]∧(∀b∈l,iJ b=true)∧CO l=true∧pF 0 l<18446744073709551616 then some (pF 0 l)else none
theorem XP {l:Bytes}(h:dec l=some n):l≠[]∧(∀b∈l,iJ b=true)∧CO l=true∧n=pF 0 l∧n<18446744073709551616:=by
 unfold dec at h;split at h
 ·next hh=>obtain⟨a,b,c,d⟩:=hh;injection h with h;exact⟨a,b,c,h.symm,by omega⟩
 ·cases h
theorem XQ {l:Bytes}(h:dec l=none):¬(l≠[]∧(∀b∈l,iJ b=true)∧CO l=true∧pF 0 l<18446744073709551616):=by
 unfold dec at h;split at h
 ·cases h
 ·next hh=>exact hh
theorem U6 (l:Bytes)(hne:l≠[]):Lib.parseUintB 64 l=Lib.parseUint10 0 l:=by
 rw[Lib.parseUintB,if_neg hne,show(2:Nat)^64-1=18446744073709551615 by decide,Lib.parseUintM_64]
def CP (c:UInt8):Nat:=if c.toNat≤57 then c.toNat-48 else c.toNat-87
def U7 (acc:Nat)(c:UInt8):Nat:=acc*16+CP c
def qz (acc:Nat)(l:Bytes):Nat:=l.foldl U7 acc
theorem CQ (acc:Nat):qz acc []=acc:=rfl
theorem r9 (acc:Nat)(c:UInt8)(r:Bytes):qz acc (c::r)=qz (acc*16+CP c) r:=by rw[qz,List.foldl_cons,U7,qz]
theorem Nh (a:Bytes):∀(acc:Nat) (b:Bytes),qz acc (a++b)=qz (qz acc a) b:=by
 induction a with
 |nil=>intro acc b;rfl
 |cons c a ih=>intro acc b;simp only[List.cons_append,r9,ih]
def hex (l:Bytes):Option Nat:=if l≠[]∧(∀b∈l,jC b=true)∧l.length≤16 then some (qz 0 l)else none
theorem FX {l:Bytes}(h:hex l=some n):l≠[]∧(∀b∈l,jC b=true)∧l.length≤16∧n=qz 0 l:=by
 unfold hex at h;split at h
 ·next hh=>obtain⟨a,b,c⟩:=hh;injection h with h;exact⟨a,b,c,h.symm⟩
 ·cases h
theorem XR {l:Bytes}(h:hex l=none):¬(l≠[]∧(∀b∈l,jC b=true)∧l.length≤16):=by
 unfold hex at h;split at h
 ·cases h
 ·next hh=>exact hh
theorem aaW (h:jC c=true):CP c<16:=by
 unfold jC iJ at h;simp only[Bool.or_eq_true,Bool.and_eq_true,decide_eq_true_eq]at h;unfold CP
 split<;>omega
def zU (c:UInt8):Option Nat:=
 if iJ c then some (c.toNat-48)else
  if 97≤bits .or .u8 (c.toNat:Int) 32∧bits .or .u8 (c.toNat:Int) 32≤102 then some ((bits .or .u8 (c.toNat:Int) 32).toNat-87)else none
def fP (acc:Nat):Bytes→Lib.NumEnd Nat
 | []=> .ok acc
 |c::r=>match zU c with
  |none=>Lib.NumEnd.syntax
  |some d=>if 1152921504606846976≤acc then .range else fP (acc*16+d) r
theorem aaX (h:jC c=true):zU c=some (CP c):=by
 unfold zU;by_cases hd:iJ c=true
 ·rw[if_pos hd];unfold iJ at hd;simp only[Bool.and_eq_true,decide_eq_true_eq]at hd;rw[CP,if_pos hd.2]
 ·rw[if_neg hd];unfold jC at h;simp only[hd,Bool.false_or,Bool.and_eq_true,decide_eq_true_eq]at h
  have key:∀k:Nat,97≤k→k≤102→bits .or .u8 (k:Int) 32=(k:Int):=by
   intro k h1 h2
   have:k=97∨k=98∨k=99∨k=100∨k=101∨k=102:=by omega
   rcases this with rfl|rfl|rfl|rfl|rfl|rfl<;>decide
  rw[key _ h.1 h.2,if_pos (by omega),CP,if_neg (by omega)];rfl
theorem Hg:∀(l:Bytes) (acc k:Nat),(∀b∈l,jC b=true)→acc<16^k→k+l.length≤16→fP acc l= .ok (qz acc l)
 | [],acc,k,_,_,_=>rfl
 |c::r,acc,k,hall,hk,hlen=>by
  have hc:=hall c (by simp);have:=aaW hc
  have h60:acc<1152921504606846976:=by
   refine Nat.lt_of_lt_of_le hk ?_
   have:(1152921504606846976:Nat)=16^15:=by decide
   rw[this];simp only[List.length_cons]at hlen;exact Nat.pow_le_pow_right (n:=16) (by decide) (by omega)
  rw[fP,aaX hc];simp only[r9];rw[if_neg (by omega)];refine Hg r _ (k+1) (fun b hb=>hall b (by simp[hb])) (by rw[Nat.pow_succ];omega) (by simp only[List.length_cons]at hlen;omega)
theorem Qx {l:Bytes}(h:hex l=some n):fP 0 l= .ok n:=by
 obtain⟨_,hall,hlen,rfl⟩:=FX h;exact Hg l 0 0 hall (by decide) (by omega)
def numOf (l:Bytes):Option Nat:=if Lib.hasPrefix l [48,120]=true then hex (Lib.trimPrefix l [48,120])else dec l
end Go.Proofs.YtgiaobmcbbfmnaaGreatDoor.EP
