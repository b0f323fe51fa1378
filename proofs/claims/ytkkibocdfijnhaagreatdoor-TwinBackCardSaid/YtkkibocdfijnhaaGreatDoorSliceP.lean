/- The plain law of the least and the greatest float of a list. No program in sight. -/
import Derived.Test.YtkkibocdfijnhaaGreatDoorFloatO
import Derived.Test.YtkkibocdfijnhaaGreatDoorFloatP
import Derived.Test.YtkkibocdfijnhaaGreatDoorProg
import Derived.Test.YtkkibocdfijnhaaGreatDoorLaneP
import Derived.WalkKit
import Derived.WalkSpells
import Derived.WalkLawsBesides
import Derived.Laws.BitsAllLaws
import Derived.KernelRfl
import Derived.Outline
import Derived.Deep.Cut
import Derived.Deep.CutRange
import Derived.Test.YtkkibocdfijnhaaGreatDoorTabP
import Derived.Test.YtkkibocdfijnhaaGreatDoorRmN
import Derived.Test.YtkkibocdfijnhaaGreatDoorLaw21e
import Derived.Test.YtkkibocdfijnhaaGreatDoorCoI
namespace Go.Proofs.YtkkibocdfijnhaaGreatDoor.vG
set_option maxRecDepth 100000
set_option maxHeartbeats 4000000
open Ieee Go.RowKit vG bV
variable {a b w x : Nat}
def af8 (w:Nat):Nat:=w^^^9223372036854775808
def pick (x y:Nat):Nat:=
 if double.read x== .infinity true||double.read y== .infinity true then double.write (.infinity true)
 else if(double.read x).isNaN||(double.read y).isNaN then 9221120237041090561
 else if(double.read x).isZero && (double.read y).isZero then(if(double.read x).neg==true then x else y)
 else if(double.read x).order (double.read y)==some .lt then x else y
def adA (x least:Nat):Bool:=decide (key x<key least)||(decide (rung x=0) && decide (rung least=0) && VZ x)
def adB (x most:Nat):Bool:=decide (key most<key x)||(decide (rung x=0) && decide (rung most=0) && !VZ x)
def adI (least:Nat)(l:List Nat):Nat:=l.foldl (fun a x=>if adA x a then x else a) least
def aep (most:Nat)(l:List Nat):Nat:=l.foldl (fun a x=>if adB x a then x else a) most
def words (l:List Nat):Prop:=∀x∈l,x<18446744073709551616
end Go.Proofs.YtkkibocdfijnhaaGreatDoor.vG

/-! The plain law of rounding a float's word by its bits. No program in sight. -/
namespace Go.Proofs.YtkkibocdfijnhaaGreatDoor.vG
set_option maxRecDepth 100000
set_option maxHeartbeats 4000000
open Ieee Go.RowKit vG bV
end Go.Proofs.YtkkibocdfijnhaaGreatDoor.vG

/-! Small functions of package math by their contracts. -/
namespace Go.Proofs.YtkkibocdfijnhaaGreatDoor
set_option maxRecDepth 100000
set_option maxHeartbeats 4000000
open Ieee Go.RowKit vG bV
variable {a b x : Nat}
def af9 (s:Bool)(x:Nat):Bool:=(rung x==9218868437227405312) && (VZ x==s)
end Go.Proofs.YtkkibocdfijnhaaGreatDoor

/-! Floats in their one form, and the keys of the forms: the plain law. No program in sight. -/
namespace Go.Proofs.YtkkibocdfijnhaaGreatDoor.vG
set_option maxRecDepth 100000
set_option maxHeartbeats 4000000
open Ieee Go.RowKit vG bV
variable {x : Nat}
def SV (x:Nat):Nat:=if aeo x then 9221120237041090560 else if rung x=0 then 0 else x
def aga (x:Nat):Nat:=if VZ (SV x)then 18446744073709551615-SV x else SV x+9223372036854775808
end Go.Proofs.YtkkibocdfijnhaaGreatDoor.vG

/-! order.Form, Bits, Key, fmap.Hash and amblerref27.Form by their contracts. No statement of the claim. -/
namespace Go.Proofs.YtkkibocdfijnhaaGreatDoor
set_option maxRecDepth 100000
set_option maxHeartbeats 4000000
open Ieee Go.RowKit vG bV
variable {x : Nat}
def ae3 (k:Nat):Nat:=k*11400714819323198485 % 18446744073709551616
end Go.Proofs.YtkkibocdfijnhaaGreatDoor

/-! A map of floats as one thing: its block, its map, as a function of keys. No statement of the claim. -/
namespace Go.Proofs.YtkkibocdfijnhaaGreatDoor
set_option maxRecDepth 100000
set_option maxHeartbeats 4000000
open Ieee Go.RowKit vG bV
variable {es es' : List ay}
def agb (es:List ay):Nat→Option Nat:=fun k=>(look es k).map ay.val
def agc (R:Nat→Option Nat)(k:Nat)(v:Option Nat):Nat→Option Nat:=fun x=>if x=k then v else R x
def upN (o:Option Nat)(n:Nat):Nat:=if o.isSome then n else n+1
def dnN (o:Option Nat)(n:Nat):Nat:=if o.isSome then n-1 else n
section
variable {W0 : World} {E : Nat → Addr} {K M I fb b : Nat} {G F : List Nat} {w w' : World} {R R' : Nat → Option Nat} {n n' : Nat} {its uo : List It} {gv ET : Nat} {a : Pool} {ids : List Nat} {fC : bC}
end
end Go.Proofs.YtkkibocdfijnhaaGreatDoor

/-! Package fmap by its contracts. No statement of the claim. -/
namespace Go.Proofs.YtkkibocdfijnhaaGreatDoor
set_option maxRecDepth 100000
set_option maxHeartbeats 4000000
open Ieee Go.RowKit vG bV
variable {E : Nat → Addr} {w : World} {its : List It}
theorem Io {ib mb most given:Nat}(h:fF w ib mb most given its)(hge:most≤its.length)(h7:bX E w 7):Calls Tryz.prog 65 #[pQ ib] w fun y w'=>y= .returned (.tuple #[.int .i64 0,.iface 318 (.pointer (some (E 7)))])∧Below w.heap.size w w':=by
 obtain⟨c0,c1,c2⟩:=h.blk.c3;have hl:=VK (h.map.mod (Mod.of_below (Below.refl w.heap.size w).drew []) (by simp)) 3
 have hll:(fK its).length=its.length:=by simp[fK]
 rw[hll]at hl
 have hge':(its.length:Int)≥(most:Int):=by omega
 unfold bX at h7;simp only[gE]at h7;clear h hge;go_in;go_upto_region 1 with fail;go_region;go_upto_region 2 with fail;go_region;go_wp2;refine bodyPost_ret (v:= .tuple #[.int .i64 0,.iface 318 (.pointer (some (E 7)))]) (by simp[results,Tryz.results65,go_sem]) rfl ⟨rfl,(Below.refl _ _).drew.drew⟩
theorem OQ {W0:World}{H:Nat→Nat}{K M I b:Nat}{G:List Nat}{a:Pool}{ids:List Nat}{gv:Nat}{fC:bC}(h:j6 W0 E H K M I b G w a ids its gv fC)(hge:I≤its.length)(h7:bX E W0 7):Calls Tryz.prog 34 #[pQ b] w fun y w'=>y= .returned (.tuple #[.int .i64 0,.iface 318 (.pointer (some (E 7)))])∧Below w.heap.size w w':=by
 obtain⟨C,GC,mb,hS,rfl,mY⟩:=h;have hbk:=hS.blk.blk;unfold fB.cells at hbk;have c16:=hbk.cell 16;simp only[gl]at c16;have h7w:bX E w 7:=h7.of_block hS.core.facts.2.2.2.2.2.2.2.2.2.2.2.below.block;have HO:=qd (Io hS.kL hge h7w);clear hbk hS mY hge h7 h7w;go_in;go_wp2_with fail;refine HO.out.mono ?_;rintro y w1 ⟨rfl,hb⟩;go_wp2;refine bodyPost_ret (v:= .tuple #[.int .i64 0,.iface 318 (.pointer (some (E 7)))]) (by simp[results,Tryz.results34,go_sem]) rfl ⟨rfl,hb⟩
end Go.Proofs.YtkkibocdfijnhaaGreatDoor

/-! The plain law of slices of operations: which stay, all keys. No program in sight. -/
namespace Go.Proofs.YtkkibocdfijnhaaGreatDoor.tF
set_option maxRecDepth 100000
set_option maxHeartbeats 4000000
open Ieee Go.RowKit vG bV
structure aV where
 kind:Int
 key:Int
 val:Int
 hash:Int
 iter:Int
deriving DecidableEq
def eG (k:Int):Bool:=k==1||k==2||k==3
def aeB (k:Int):Bool:=decide (0<k) && decide (k<4)
def aao (keep:Nat→aV→Bool):Nat→List aV→List aV
 |_,[]=> []
 |i,o::t=>if keep i o then o::aao keep (i+1) t else aao keep (i+1) t
def stops (key:Int)(o:aV):Bool:=o.kind==5||(o.kind==3 && o.key==key)||(o.kind==2 && o.key==key)
def shrink:List aV→List aV
 | []=> []
 |o::t=>if o.kind==2 && !t.any (stops o.key)then o::shrink t else shrink t
def aap (key:Int):List aV→Option Nat
 | []=>none
 |o::t=>
  if o.kind==5||(o.kind==3 && o.key==key)then none
  else if o.kind==2 && o.key==key then some t.length
  else aap key t
def last (key:Int)(l:List aV):Option Nat:=aap key l.reverse
def bump (o:aV)(pre:List aV)(c:List Bool):List Bool:=
 (List.zipWith (fun x b=>if o.kind==5||(o.kind==2||o.kind==3) && x.key==o.key then false else b) pre c)++[o.kind==2]
def V4:List aV→List Bool→List aV→List Bool
 |_,c,[]=>c
 |pre,c,o::t=>V4 (pre++[o]) (bump o pre c) t
def count (l:List aV):List Bool:=V4 [] [] l
def counts (l:List aV):List Bool:=(List.range l.length).map fun i=>match l[i]? with|some o=>o.kind==2 && !(l.drop (i+1)).any (stops o.key)|none=>false
def write (o:aV):Bool:=o.kind==2||o.kind==3||o.kind==5
def FZ (known:List Int):List aV→List Int
 | []=> []
 |o::t=>if eG o.kind then(if known.contains o.key then FZ known t else o.key::FZ (known++[o.key]) t)else FZ known t
def aer (out:List Int)(o:aV):List Int:=
 let a:=out.takeWhile fun x=>decide (x<o.key)
 let b:=out.dropWhile fun x=>decide (x<o.key)
 if eG o.kind && !(b.head?==some o.key)then a++o.key::b else out
def ae4 (l:List aV):List Int:=l.foldl aer []
end Go.Proofs.YtkkibocdfijnhaaGreatDoor.tF
