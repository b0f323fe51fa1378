/- The plain law of the least and the greatest float of a list. No program in sight. -/
import Derived.Test.YtkddpchpcepjgaaGreatDoorFloatO
import Derived.Laws.BitsAllLaws
namespace Go.Proofs.YtkddpchpcepjgaaGreatDoor
theorem kq:type_of% @List.any_append:=@List.any_append
end Go.Proofs.YtkddpchpcepjgaaGreatDoor
namespace Go.Proofs.YtkddpchpcepjgaaGreatDoor.wV
set_option maxRecDepth 100000
set_option maxHeartbeats 4000000
open Ieee Go.RowKit wV cu
variable {a b w x : Nat}
def aiA (w:Nat):Nat:=w^^^9223372036854775808
def pick (x y:Nat):Nat:=
 if double.read x== .infinity true||double.read y== .infinity true then double.write (.infinity true)
 else if(double.read x).isNaN||(double.read y).isNaN then 9221120237041090561
 else if(double.read x).isZero && (double.read y).isZero then(if(double.read x).neg==true then x else y)
 else if(double.read x).order (double.read y)==some .lt then x else y
def afR (x least:Nat):Bool:=decide (key x<key least)||(decide (rung x=0) && decide (rung least=0) && YD x)
def afS (x most:Nat):Bool:=decide (key most<key x)||(decide (rung x=0) && decide (rung most=0) && !YD x)
def afY (least:Nat)(l:List Nat):Nat:=l.foldl (λa x=>if afR x a then x else a) least
def agH (most:Nat)(l:List Nat):Nat:=l.foldl (λa x=>if afS x a then x else a) most
def words (l:List Nat):Prop:=∀x∈l,x<18446744073709551616
end Go.Proofs.YtkddpchpcepjgaaGreatDoor.wV

/-! The plain law of rounding a float's word by its bits. No program in sight. -/
namespace Go.Proofs.YtkddpchpcepjgaaGreatDoor.wV
set_option maxRecDepth 100000
set_option maxHeartbeats 4000000
open Ieee Go.RowKit wV cu
end Go.Proofs.YtkddpchpcepjgaaGreatDoor.wV

/-! Small functions of package math by their contracts. -/
namespace Go.Proofs.YtkddpchpcepjgaaGreatDoor
set_option maxRecDepth 100000
set_option maxHeartbeats 4000000
open Ieee Go.RowKit wV cu
variable {a b x : Nat}
def aiB (s:Bool)(x:Nat):Bool:=(rung x==9218868437227405312) && (YD x==s)
end Go.Proofs.YtkddpchpcepjgaaGreatDoor

/-! Floats in their one form, and the keys of the forms: the plain law. No program in sight. -/
namespace Go.Proofs.YtkddpchpcepjgaaGreatDoor.wV
set_option maxRecDepth 100000
set_option maxHeartbeats 4000000
open Ieee Go.RowKit wV cu
variable {x : Nat}
def VH (x:Nat):Nat:=if agG x then 9221120237041090560 else if rung x=0 then 0 else x
def aiC (x:Nat):Nat:=if YD (VH x)then 18446744073709551615-VH x else VH x+9223372036854775808
end Go.Proofs.YtkddpchpcepjgaaGreatDoor.wV

/-! order.Form, Bits, Key, fmap.Hash and amblerref27.Form by their contracts. No statement of the claim. -/
namespace Go.Proofs.YtkddpchpcepjgaaGreatDoor
set_option maxRecDepth 100000
set_option maxHeartbeats 4000000
open Ieee Go.RowKit wV cu
variable {x : Nat}
def ahr (k:Nat):Nat:=k*11400714819323198485 % 18446744073709551616
end Go.Proofs.YtkddpchpcepjgaaGreatDoor

/-! A map of floats as one thing: its block, its map, as a function of keys. No statement of the claim. -/
namespace Go.Proofs.YtkddpchpcepjgaaGreatDoor
set_option maxRecDepth 100000
set_option maxHeartbeats 4000000
open Ieee Go.RowKit wV cu
variable {es es' : List ay}
def aiD (es:List ay):Nat->Option Nat:=λk=>(look es k).map ay.val
def aiE (R:Nat->Option Nat)(k:Nat)(v:Option Nat):Nat->Option Nat:=λx=>if x=k then v else R x
def upN (o:Option Nat)(n:Nat):Nat:=if o.isSome then n else n+1
def dnN (o:Option Nat)(n:Nat):Nat:=if o.isSome then n-1 else n
section
variable {W0 : World} {E : Nat -> Addr} {K M I fb b : Nat} {G F : List Nat} {w w' : World} {R R' : Nat -> Option Nat} {n n' : Nat} {its vI : List It} {gv GA : Nat} {a : Pool} {ids : List Nat} {fK : bE}
end
end Go.Proofs.YtkddpchpcepjgaaGreatDoor

/-! Package fmap by its contracts. No statement of the claim. -/
namespace Go.Proofs.YtkddpchpcepjgaaGreatDoor
set_option maxRecDepth 100000
set_option maxHeartbeats 4000000
open Ieee Go.RowKit wV cu
variable {E : Nat -> Addr} {w : World} {its : List It}
theorem J3 {ib mb most given:Nat}(h:fQ w ib mb most given its)(hge:most<=its.length)(h7:bY E w 7):Calls Tryz.prog 76 #[pQ ib] w λy w'=>y= .returned (.tuple #[.int .i64 0,.iface 333 (.pointer (some (E 7)))])/\Below w.heap.size w w':=by
 obtain⟨c0,c1,c2⟩:=h.blk.c3;have hl:=Yq (h.map.mod (Mod.of_below (Below.refl w.heap.size w).drew []) (by simp)) 3
 have hll:(gq its).length=its.length:=by simp[gq]
 rw[hll]at hl
 have hge':(its.length:Int)>=(most:Int):=by omega
 unfold bY at h7;simp only[gE]at h7;clear h hge;go_in;go_upto_region 1 with fail;go_region;go_upto_region 2 with fail;go_region;go_wp2;refine bodyPost_ret (v:= .tuple #[.int .i64 0,.iface 333 (.pointer (some (E 7)))]) (by simp[results,Tryz.results76,go_sem]) rfl ⟨rfl,(Below.refl _ _).drew.drew⟩
theorem QO {W0:World}{H:Nat->Nat}{K M I b:Nat}{G:List Nat}{a:Pool}{ids:List Nat}{gv:Nat}{fK:bE}(h:kY W0 E H K M I b G w a ids its gv fK)(hge:I<=its.length)(h7:bY E W0 7):Calls Tryz.prog 43 #[pQ b] w λy w'=>y= .returned (.tuple #[.int .i64 0,.iface 333 (.pointer (some (E 7)))])/\Below w.heap.size w w':=by
 obtain⟨C,GC,mb,hS,rfl,om⟩:=h;have hbk:=hS.blk.blk;unfold fJ.cells at hbk;have c16:=hbk.cell 16;simp only[gl]at c16;have h7w:bY E w 7:=h7.of_block hS.core.facts.2.2.2.2.2.2.2.2.2.2.2.below.block;have HO:=qd (J3 hS.lS hge h7w);clear hbk hS om hge h7 h7w;go_in;go_wp2_with fail;refine HO.o.mono ?_;rintro y w1 ⟨rfl,hb⟩;go_wp2;refine bodyPost_ret (v:= .tuple #[.int .i64 0,.iface 333 (.pointer (some (E 7)))]) (by simp[results,Tryz.results43,go_sem]) rfl ⟨rfl,hb⟩
end Go.Proofs.YtkddpchpcepjgaaGreatDoor

/-! The plain law of slices of operations: which stay, all keys. No program in sight. -/
namespace Go.Proofs.YtkddpchpcepjgaaGreatDoor.uq
set_option maxRecDepth 100000
set_option maxHeartbeats 4000000
open Ieee Go.RowKit wV cu
structure aB where
 kind:Int
 key:Int
 val:Int
 hash:Int
 iter:Int
deriving DecidableEq
def cZ (k:Int):Bool:=k==1||k==2||k==3
def QS (k:Int):Bool:=decide (0<k) && decide (k<4)
theorem QT (k:Int):QS k=cZ k:=by
 unfold QS cZ;rw[xy];simp;omega
def jZ (keep:Nat->aB->Bool):Nat->List aB->List aB
 |_,[]=> []
 |i,o::t=>if keep i o then o::jZ keep (i+1) t else jZ keep (i+1) t
theorem EU (p:aB->Bool):∀(l:List aB) (i:Nat),jZ (λ_ o=>p o) i l=l.filter p
 | [],_=>rfl
 |o::t,i=>by
  unfold jZ;rw[EU p t,xf]
theorem EW (keep:Nat->aB->Bool):∀(l:List aB) (i:Nat),(jZ keep i l).length<=l.length
 | [],_=>zb _
 |o::t,i=>by
  have:=EW keep t (i+1);unfold jZ
  split<;>simp<;>omega
theorem J4 (keep:Nat->aB->Bool)(o:aB):∀(l:List aB) (i:Nat),jZ keep i (l++[o])=jZ keep i l++(if keep (i+l.length) o then [o]else [])
 | [],i=>by simp[jZ]
 |x::t,i=>by
  simp only[yb,jZ,J4 keep o t (i+1),ZS];rw[show i+1+t.length=i+(t.length+1) by omega]
  split<;>simp
def stops (key:Int)(o:aB):Bool:=o.kind==5||(o.kind==3 && o.key==key)||(o.kind==2 && o.key==key)
def shrink:List aB->List aB
 | []=> []
 |o::t=>if o.kind==2 && !t.any (stops o.key)then o::shrink t else shrink t
def yh (key:Int):List aB->Option Nat
 | []=>none
 |o::t=>
  if o.kind==5||(o.kind==3 && o.key==key)then none
  else if o.kind==2 && o.key==key then some t.length
  else yh key t
def last (key:Int)(l:List aB):Option Nat:=yh key l.reverse
theorem EX (key:Int)(l:List aB)(o:aB):last key (l++[o])=
  if o.kind==5||(o.kind==3 && o.key==key)then none else if o.kind==2 && o.key==key then some l.length else last key l:=by
 simp[last,yh]
theorem GH (key:Int)(l r:List aB):last key (l++r)=if r.any (stops key)then(last key r).map (·+l.length)else last key l:=by
 have H:∀r':List aB,last key (l++r'.reverse)=if r'.reverse.any (stops key)then(last key r'.reverse).map (·+l.length)else last key l:=by
  intro r'
  induction r' with
  |nil=>simp
  |cons o t ih=>
   rw[List.reverse_cons,<-qe,EX,EX,ih];rw[kq];simp only[List.any_cons,List.any_nil,Bool.or_false];by_cases h1:(o.kind==5||(o.kind==3 && o.key==key))=true
   ·rw[if_pos h1]
    have:stops key o=true:=by unfold stops;rw[h1];rfl
    rw[this,Bool.or_true,if_pos rfl,if_pos h1];rfl
   ·rw[if_neg h1,if_neg h1];by_cases h2:(o.kind==2 && o.key==key)=true
    ·rw[if_pos h2,if_pos h2]
     have:stops key o=true:=by unfold stops;rw[h2];simp
     rw[this,Bool.or_true,if_pos rfl];simp[Nat.add_comm]
    ·rw[if_neg h2,if_neg h2]
     have:stops key o=false:=by
      unfold stops;rw[Bool.not_eq_true]at h1 h2;rw[h1,h2];rfl
     rw[this,Bool.or_false]
 have:=H r.reverse;simpa using this
theorem N9 (o:aB)(t:List aB)(h:o.kind==2):(last o.key (o::t)==some 0)= !t.any (stops o.key):=by
 have e:o::t=[o]++t:=rfl;rw[e,GH]
 cases ht:t.any (stops o.key)with
 |true=>
  rw[if_pos rfl]
  cases last o.key t<;>simp
 |false=>
  rw[if_neg (by simp)]
  have hk:o.kind=2:=by simpa using h
  simp[last,yh,hk]
theorem R4 (l:List aB):jZ (λi o=>o.kind==2 && last o.key l==some i) 0 l=shrink l:=by
 have H:∀(t p:List aB),jZ (λi o=>o.kind==2 && last o.key (p++t)==some i) p.length t=shrink t:=by
  intro t
  induction t with
  |nil=>intro p;rfl
  |cons o t ih=>
   intro p;unfold jZ shrink
   have e:(o.kind==2 && last o.key (p++o::t)==some p.length)=(o.kind==2 && !t.any (stops o.key)):=by
    cases hk:(o.kind==2)with
    |false=>simp
    |true=>
     simp only[J1];rw[<-N9 o t hk,GH]
     have hs:stops o.key o=true:=by unfold stops;rw[hk];simp
     rw[if_pos (by simp[hs])]
     cases last o.key (o::t)with
     |none=>rfl
     |some j=>
      rw[xy];simp
   rw[e];have ih':=ih (p++[o]);simp only[qe,yb,ya,ZD,ZS,yv,yz]at ih';rw[ih']
 have:=H l [];simpa using this
def bump (o:aB)(pre:List aB)(c:List Bool):List Bool:=
 (List.zipWith (λx b=>if o.kind==5||(o.kind==2||o.kind==3) && x.key==o.key then false else b) pre c)++[o.kind==2]
def YE:List aB->List Bool->List aB->List Bool
 |_,c,[]=>c
 |pre,c,o::t=>YE (pre++[o]) (bump o pre c) t
def count (l:List aB):List Bool:=YE [] [] l
def counts (l:List aB):List Bool:=(List.range l.length).map λi=>match l[i]? with|some o=>o.kind==2 && !(l.drop (i+1)).any (stops o.key)|none=>false
theorem kZ:∀(l:List aB) (o:aB),o∈shrink l->o.kind=2/\o∈l
 | [],_,h=>by simp[shrink]at h
 |x::t,o,h=>by
  unfold shrink at h;split at h
  ·next hc=>
   rcases zt.1 h with rfl|h
   ·simp at hc;exact⟨hc.1,by simp⟩
   ·have:=kZ t o h;exact⟨this.1,qu _ this.2⟩
  ·have:=kZ t o h;exact⟨this.1,qu _ this.2⟩
def write (o:aB):Bool:=o.kind==2||o.kind==3||o.kind==5
theorem vX:∀l:List aB,((shrink l).map (·.key)).Nodup
 | []=>by simp[shrink]
 |o::t=>by
  unfold shrink;split
  ·next h=>
   simp only[yk,Bool.not_eq_true']at h;rw[ye,qa];refine⟨?_,vX t⟩;intro hm;obtain⟨x,hx,he⟩:=Z3.1 hm;have h2:=kZ t x hx;have:=(List.any_eq_false.1 h.2) x h2.2;unfold stops at this;simp[h2.1,he]at this
  ·exact vX t
def Ip (known:List Int):List aB->List Int
 | []=> []
 |o::t=>if cZ o.kind then(if known.contains o.key then Ip known t else o.key::Ip (known++[o.key]) t)else Ip known t
def agI (out:List Int)(o:aB):List Int:=
 let a:=out.takeWhile λx=>decide (x<o.key)
 let b:=out.dropWhile λx=>decide (x<o.key)
 if cZ o.kind && !(b.head?==some o.key)then a++o.key::b else out
def ahs (l:List aB):List Int:=l.foldl agI []
end Go.Proofs.YtkddpchpcepjgaaGreatDoor.uq
