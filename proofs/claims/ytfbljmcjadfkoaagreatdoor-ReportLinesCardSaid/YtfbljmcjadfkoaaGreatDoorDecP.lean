/- The plain law of numbers: which texts are which numbers, of base 10 and of base 16. No program in sight. -/
import Derived.Lib.ParseIntB
import Derived.Lib.Strings
import Derived.Lib.ParseIntBCases
import Derived.Laws.Closers25b
namespace Go.Proofs.YtfbljmcjadfkoaaGreatDoor.AmD
open Go
variable {n : Nat} {c : UInt8}
abbrev Bytes:=List UInt8
def isDig (c:UInt8):Bool:=48≤c.toNat && c.toNat≤57
def isHex (c:UInt8):Bool:=isDig c||(97≤c.toNat && c.toNat≤102)
def next10 (acc:Nat)(c:UInt8):Nat:=acc*10+(c.toNat-48)
def val10 (acc:Nat)(l:Bytes):Nat:=l.foldl next10 acc
theorem val10_nil (acc:Nat):val10 acc []=acc:=rfl
theorem val10_cons (acc:Nat)(c:UInt8)(r:Bytes):val10 acc (c::r)=val10 (acc*10+(c.toNat-48)) r:=by rw[val10,List.foldl_cons,next10,val10]
def dg (d:Nat):UInt8:=UInt8.ofNat (48+d)
def digits (n:Nat):Bytes:=if n<10 then [dg n]else digits (n/10)++[dg (n % 10)]
decreasing_by omega
theorem digits_small (n:Nat)(h:n<10):digits n=[dg n]:=by rw[digits,if_pos h]
theorem digits_great (n:Nat)(h:¬n<10):digits n=digits (n/10)++[dg (n % 10)]:=by rw[digits,if_neg h]
theorem val10_append (a:Bytes):∀(acc:Nat) (b:Bytes),val10 acc (a++b)=val10 (val10 acc a) b:=by
 induction a with
 |nil=>intro acc b;rfl
 |cons c a ih=>intro acc b;simp only[List.cons_append,val10_cons,ih]
theorem byte_of {d:Nat}(h:d<10):(dg d).toNat=48+d:=by
 unfold dg;rw[UInt8.toNat_ofNat'];exact Nat.mod_eq_of_lt (by omega)
theorem digits_ne (n:Nat):digits n≠[]:=by
 by_cases h:n<10
 ·rw[digits_small n h];simp
 ·rw[digits_great n h];simp
def noZero:Bytes→Bool
 |c::_::_=>c !=48
 |_=>true
theorem digits_length:∀(k n:Nat),n<10^(k+1)→(digits n).length≤k+1
 |0,n,h=>by rw[digits_small n (by simpa using h)];simp
 |k+1,n,h=>by
  by_cases h1:n<10
  ·rw[digits_small n h1];simp
  ·rw[digits_great n h1,List.length_append];have:=digits_length k (n/10) (by rw[Nat.div_lt_iff_lt_mul (by omega)];rw[Nat.pow_succ]at h;exact h);simp;omega
def dec (l:Bytes):Option Nat:=if l≠[]∧(∀b∈l,isDig b=true)∧noZero l=true∧val10 0 l<18446744073709551616 then some (val10 0 l)else none
def hexV (c:UInt8):Nat:=if c.toNat≤57 then c.toNat-48 else c.toNat-87
def next16 (acc:Nat)(c:UInt8):Nat:=acc*16+hexV c
def val16 (acc:Nat)(l:Bytes):Nat:=l.foldl next16 acc
theorem val16_nil (acc:Nat):val16 acc []=acc:=rfl
theorem val16_cons (acc:Nat)(c:UInt8)(r:Bytes):val16 acc (c::r)=val16 (acc*16+hexV c) r:=by rw[val16,List.foldl_cons,next16,val16]
theorem val16_append (a:Bytes):∀(acc:Nat) (b:Bytes),val16 acc (a++b)=val16 (val16 acc a) b:=by
 induction a with
 |nil=>intro acc b;rfl
 |cons c a ih=>intro acc b;simp only[List.cons_append,val16_cons,ih]
def hex (l:Bytes):Option Nat:=if l≠[]∧(∀b∈l,isHex b=true)∧l.length≤16 then some (val16 0 l)else none
theorem hexV_lt (h:isHex c=true):hexV c<16:=by
 unfold isHex isDig at h;simp only[Bool.or_eq_true,Bool.and_eq_true,decide_eq_true_eq]at h;unfold hexV
 split<;>omega
theorem val16_lt:∀(l:Bytes) (acc k:Nat),(∀b∈l,isHex b=true)→acc<16^k→val16 acc l<16^(k+l.length)
 | [],acc,k,_,h=>by simpa[val16_nil]using h
 |c::r,acc,k,hall,h=>by
  have:=hexV_lt (hall c (by simp));simp only[val16_cons,List.length_cons];rw[show k+(r.length+1)=(k+1)+r.length by omega];refine val16_lt r _ (k+1) (fun b hb=>hall b (by simp[hb])) ?_;rw[Nat.pow_succ];omega
def d16 (c:UInt8):Option Nat:=
 if isDig c then some (c.toNat-48)else
  if 97≤bits .or .u8 (c.toNat:Int) 32∧bits .or .u8 (c.toNat:Int) 32≤102 then some ((bits .or .u8 (c.toNat:Int) 32).toNat-87)else none
def parse16 (acc:Nat):Bytes→Lib.NumEnd Nat
 | []=> .ok acc
 |c::r=>match d16 c with
  |none=>Lib.NumEnd.syntax
  |some d=>if 1152921504606846976≤acc then .range else parse16 (acc*16+d) r
def numOf (l:Bytes):Option Nat:=if Lib.hasPrefix l [48,120]=true then hex (Lib.trimPrefix l [48,120])else dec l
end Go.Proofs.YtfbljmcjadfkoaaGreatDoor.AmD
