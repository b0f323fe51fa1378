/- The plain law of the least and the greatest float of a list. No program in sight. -/
import Derived.Test.YtgiaobmcbbfmnaaGreatDoorFloatO
import Derived.Test.YtgiaobmcbbfmnaaGreatDoorFloatP
import Derived.Test.YtgiaobmcbbfmnaaGreatDoorProg
import Derived.Test.YtgiaobmcbbfmnaaGreatDoorSq
import Derived.WalkKit
import Derived.WalkSpells
import Derived.WalkLawsBesides
import Derived.Laws.BitsAllLaws
import Derived.KernelRfl
import Derived.Outline
import Derived.Deep.Cut
import Derived.Deep.CutRange
import Derived.Test.YtgiaobmcbbfmnaaGreatDoorLaneR
import Derived.Test.YtgiaobmcbbfmnaaGreatDoorRmK
import Derived.Test.YtgiaobmcbbfmnaaGreatDoorErrs
import Derived.Test.YtgiaobmcbbfmnaaGreatDoorKit2
import Derived.Laws.Closers25b
import Derived.Deep.LoopGhost
import Derived.Test.YtgiaobmcbbfmnaaGreatDoorCoU
import Derived.Test.YtgiaobmcbbfmnaaGreatDoorSqT
import Derived.Test.YtgiaobmcbbfmnaaGreatDoorSnP
namespace Go.Proofs.YtgiaobmcbbfmnaaGreatDoor.pz
set_option maxRecDepth 100000
set_option maxHeartbeats 8000000
open Ieee Go.RowKit pz dw lY jY
variable {a b w x : Nat}
def agE (w:Nat):Nat:=w^^^9223372036854775808
def pick (x y:Nat):Nat:=
 if double.read x== .infinity true||double.read y== .infinity true then double.write (.infinity true)
 else if(double.read x).isNaN||(double.read y).isNaN then 9221120237041090561
 else if(double.read x).isZero && (double.read y).isZero then(if(double.read x).neg==true then x else y)
 else if(double.read x).order (double.read y)==some .lt then x else y
def adE (x least:Nat):Bool:=decide (key x<key least)||(decide (rung x=0) && decide (rung least=0) && XG x)
def adF (x most:Nat):Bool:=decide (key most<key x)||(decide (rung x=0) && decide (rung most=0) && !XG x)
def adK (least:Nat)(l:List Nat):Nat:=l.foldl (fun a x=>if adE x a then x else a) least
def aeK (most:Nat)(l:List Nat):Nat:=l.foldl (fun a x=>if adF x a then x else a) most
def words (l:List Nat):Prop:=∀x∈l,x<18446744073709551616
end Go.Proofs.YtgiaobmcbbfmnaaGreatDoor.pz

/-! The plain law of rounding a float's word by its bits. No program in sight. -/
namespace Go.Proofs.YtgiaobmcbbfmnaaGreatDoor.pz
set_option maxRecDepth 100000
set_option maxHeartbeats 8000000
open Ieee Go.RowKit pz dw lY jY
end Go.Proofs.YtgiaobmcbbfmnaaGreatDoor.pz

/-! Small functions of package math by their contracts. -/
namespace Go.Proofs.YtgiaobmcbbfmnaaGreatDoor
set_option maxRecDepth 100000
set_option maxHeartbeats 8000000
open Ieee Go.RowKit pz dw lY jY
variable {a b x : Nat}
def agF (s:Bool)(x:Nat):Bool:=(rung x==9218868437227405312) && (XG x==s)
end Go.Proofs.YtgiaobmcbbfmnaaGreatDoor

/-! Floats in their one form, and the keys of the forms: the plain law. No program in sight. -/
namespace Go.Proofs.YtgiaobmcbbfmnaaGreatDoor.pz
set_option maxRecDepth 100000
set_option maxHeartbeats 8000000
open Ieee Go.RowKit pz dw lY jY
variable {x : Nat}
def UN (x:Nat):Nat:=if aeJ x then 9221120237041090560 else if rung x=0 then 0 else x
def agG (x:Nat):Nat:=if XG (UN x)then 18446744073709551615-UN x else UN x+9223372036854775808
end Go.Proofs.YtgiaobmcbbfmnaaGreatDoor.pz

/-! order.Form, Bits, Key, fmap.Hash and amblerref27.Form by their contracts. No statement of the claim. -/
namespace Go.Proofs.YtgiaobmcbbfmnaaGreatDoor
set_option maxRecDepth 100000
set_option maxHeartbeats 8000000
open Ieee Go.RowKit pz dw lY jY
variable {x : Nat}
def afq (k:Nat):Nat:=k*11400714819323198485 % 18446744073709551616
end Go.Proofs.YtgiaobmcbbfmnaaGreatDoor

/-! A map of floats as one thing: its block, its map, as a function of keys. No statement of the claim. -/
namespace Go.Proofs.YtgiaobmcbbfmnaaGreatDoor
set_option maxRecDepth 100000
set_option maxHeartbeats 8000000
open Ieee Go.RowKit pz dw lY jY
variable {es es' : List ay}
def agH (es:List ay):Nat→Option Nat:=fun k=>(look es k).map ay.val
def agI (R:Nat→Option Nat)(k:Nat)(v:Option Nat):Nat→Option Nat:=fun x=>if x=k then v else R x
def upN (o:Option Nat)(n:Nat):Nat:=if o.isSome then n else n+1
def dnN (o:Option Nat)(n:Nat):Nat:=if o.isSome then n-1 else n
section
variable {W0 : World} {E : Nat → Addr} {K M I fb b : Nat} {G F : List Nat} {w w' : World} {R R' : Nat → Option Nat} {n n' : Nat} {its qo : List It} {gv AX : Nat} {a : Pool} {ids : List Nat} {fF : bE}
end
end Go.Proofs.YtgiaobmcbbfmnaaGreatDoor

/-! Package fmap by its contracts. No statement of the claim. -/
namespace Go.Proofs.YtgiaobmcbbfmnaaGreatDoor
set_option maxRecDepth 100000
set_option maxHeartbeats 8000000
open Ieee Go.RowKit pz dw lY jY
variable {E : Nat → Addr} {w : World} {its : List It}
theorem Jr {ib mb most given:Nat}(h:gI w ib mb most given its)(hge:most≤its.length)(h7:dP E w 7):Calls Tryz.prog 30 #[.pointer (some ⟨ib,0,none⟩)] w fun y w'=>y= .returned (.tuple #[.int .i64 0,.iface 379 (.pointer (some (E 7)))])∧Below w.heap.size w w':=by
 obtain⟨c0,c1,c2⟩:=h.blk.c3;have hl:=Xv (h.map.mod (Mod.of_below (Below.refl w.heap.size w).drew []) (by simp)) 3
 have hll:(gH its).length=its.length:=by simp[gH]
 rw[hll]at hl
 have hge':(its.length:Int)≥(most:Int):=by omega
 unfold dP at h7;simp only[gE]at h7;clear h hge;go_in;go_upto_region 1 with fail;go_region;go_upto_region 2 with fail;go_region;go_wp2;refine bodyPost_ret (v:= .tuple #[.int .i64 0,.iface 379 (.pointer (some (E 7)))]) (by simp[results,Tryz.results30,go_sem]) rfl ⟨rfl,(Below.refl _ _).drew.drew⟩
theorem Qn {W0:World}{H:Nat→Nat}{K M I b:Nat}{G:List Nat}{a:Pool}{ids:List Nat}{gv:Nat}{fF:bE}(h:nC W0 E H K M I b G w a ids its gv fF)(hge:I≤its.length)(h7:dP E W0 7):Calls Tryz.prog 14 #[.pointer (some ⟨b,0,none⟩)] w fun y w'=>y= .returned (.tuple #[.int .i64 0,.iface 379 (.pointer (some (E 7)))])∧Below w.heap.size w w':=by
 obtain⟨C,GC,mb,hS,rfl,wK⟩:=h;have hbk:=hS.blk.blk;unfold ig.cells at hbk;have c16:=hbk.cell 16;simp only[gl]at c16;have h7w:dP E w 7:=h7.of_block hS.core.facts.2.2.2.2.2.2.2.2.2.2.2.below.block;have HO:=qd (Jr hS.nP hge h7w);clear hbk hS wK hge h7 h7w;go_in;go_wp2_with fail;refine HO.out.mono ?_;rintro y w1 ⟨rfl,hb⟩;go_wp2;refine bodyPost_ret (v:= .tuple #[.int .i64 0,.iface 379 (.pointer (some (E 7)))]) (by simp[results,Tryz.results14,go_sem]) rfl ⟨rfl,hb⟩
end Go.Proofs.YtgiaobmcbbfmnaaGreatDoor

/-! A map all of whose iterators are open, by the contracts. No statement of the claim. -/
namespace Go.Proofs.YtgiaobmcbbfmnaaGreatDoor
set_option maxRecDepth 100000
set_option maxHeartbeats 8000000
open Ieee Go.RowKit pz dw lY jY
def Qo (W0:World)(E:Nat→Addr)(H:Nat→Nat)(K M I b:Nat)(G:List Nat)(w:World)(R:Nat→Option Nat)(n j:Nat):Prop:=∃its,its.length=j∧mF W0 E H K M I b G w R n its j
section
variable {W0 : World} {E : Nat → Addr} {H : Nat → Nat} {K M I b : Nat} {G : List Nat} {w w' : World} {R : Nat → Option Nat} {n j : Nat}
theorem aaj (h:Qo W0 E H K M I b G w R n j)(hlt:j<I)(hj:j≤100000):Calls Tryz.prog 14 #[.pointer (some ⟨b,0,none⟩)] w fun y w'=>y= .returned (.tuple #[.int .i64 ((j+1:Nat):Int),.nilIface])∧∃G',Qo W0 E H K M I b G' w' R n (j+1)∧(∀q∈G',q∈G∨w.heap.size≤q)∧Mod G w w':=by
 obtain⟨its,hl,a,ids,fF,h1,rfl,rfl⟩:=h;refine(Si h1 (by omega) hj).mono ?_;rintro y w' ⟨cb,rfl,G',h2,h3,h4⟩;exact⟨rfl,G',⟨_,by simp[hl],a,ids,fF,h2,rfl,rfl⟩,h3,h4⟩
theorem Qp (h:Qo W0 E H K M I b G w R n j)(hge:I≤j)(h7:dP E W0 7):Calls Tryz.prog 14 #[.pointer (some ⟨b,0,none⟩)] w fun y w'=>y= .returned (.tuple #[.int .i64 0,jV E 7])∧Below w.heap.size w w':=by
 obtain⟨its,hl,a,ids,fF,h1,rfl,rfl⟩:=h;refine(Qn h1 (by omega) h7).mono ?_;rintro y w' ⟨rfl,h2⟩;exact⟨rfl,by first|exact h2|exact h2.1⟩
theorem J9 (h:Qo W0 E H K M I b G w R n j)(hge:I≤j)(h7:dP E W0 7):Calls Tryz.prog 15 #[.pointer (some ⟨b,0,none⟩)] w fun y w'=>y= .returned (.tuple #[.slice none 0 0,jV E 7])∧Below w.heap.size w w':=by
 have HO:=qd (Qp h hge h7);clear h h7;rw[jH E (by omega:1≤7)]at HO;go_in;go_wp2_with fail;refine HO.out.mono ?_;rintro y w1 ⟨rfl,hb1⟩;go_wp2;go_ret2;exact⟨rfl,hb1⟩
end
end Go.Proofs.YtgiaobmcbbfmnaaGreatDoor

/-! Hashes of plain numbers by their contracts: each kind is a function of the key. No statement of the claim. -/
namespace Go.Proofs.YtgiaobmcbbfmnaaGreatDoor
set_option maxRecDepth 100000
set_option maxHeartbeats 8000000
open Ieee Go.RowKit pz dw lY jY
def BZ (x d m:Int):Int:=bits .or .u64 (bits .and .u64 (x/d) m) (IntKind.u64.wrap (bits .and .u64 x m*d))
def adG (x:Int):Int:=bits .or .u64 (BZ (BZ x 256 71777214294589695) 65536 281470681808895/4294967296) (IntKind.u64.wrap (BZ (BZ x 256 71777214294589695) 65536 281470681808895*4294967296))
def aeL (x:Int):Int:=adG (BZ (BZ (BZ x 2 6148914691236517205) 4 3689348814741910323) 16 1085102592571150095)
def UO (x:Int):Nat→Int×Int
 |0=>(x,14695981039346656037)
 |i+1=>((UO x i).1/256,IntKind.u64.wrap (bits .xor .u64 (UO x i).2 (bits .and .u64 (UO x i).1 255)*1099511628211))
def aeM (kind:Nat)(x:Int):Int:=
 match kind with
 |0=>x
 |1=>0
 |2=>IntKind.u64.wrap (x*11400714819323198485)
 |3=>(UO x 8).2
 |4=>aeL x
 |_=>IntKind.u64.wrap (x*288230376151711744)
def aeN (kind key:Nat):Nat:=if key<18446744073709551616 then(aeM kind key).toNat else 0
end Go.Proofs.YtgiaobmcbbfmnaaGreatDoor

/-! A snapshot's hashes, and that no key is there twice, by their contracts. No statement of the claim. -/
namespace Go.Proofs.YtgiaobmcbbfmnaaGreatDoor
set_option maxRecDepth 100000
set_option maxHeartbeats 8000000
open Ieee Go.RowKit pz dw lY jY
def agJ (kind:Nat)(p:Nat×Nat):ay:=⟨p.1,p.2,aeN kind p.1⟩
end Go.Proofs.YtgiaobmcbbfmnaaGreatDoor

/-! A map of a snapshot, by its contract. No statement of the claim. -/
namespace Go.Proofs.YtgiaobmcbbfmnaaGreatDoor
set_option maxRecDepth 100000
set_option maxHeartbeats 8000000
open Ieee Go.RowKit pz dw lY jY
structure Fill (W0:World)(E:Nat→Addr)(H:Nat→Nat)(K M I b:Nat)(w0 w:World)(G:List Nat)(l:PL)(i:Nat)(v:Value)(n:Nat)(xs:List Value):Prop where
 map:∃R,mF W0 E H K M I b G w R i [] 0∧∀k u,R k=some u↔(k,u)∈l.take i
 row:w.ownsRow w0.heap.size 153 3 v n xs
 apart:∀q∈v.ownBlock.toList,q∉G
 from_:∀q∈G,w0.heap.size≤q
 below:Below w0.heap.size w0 w
theorem Fill.step {W0:World}{E:Nat→Addr}{H:Nat→Nat}{K M I b:Nat}{w0 w w':World}{G:List Nat}{l:PL}{i n:Nat}{v:Value}{xs:List Value}{p:Nat×Nat}{R R':Nat→Option Nat}(h:Fill W0 E H K M I b w0 w G l i v n xs)(hp:l[i]?=some p)(hR:∀k u,R k=some u↔(k,u)∈l.take i)(hn:R p.1=none)(hR':R'=fun x=>if x=p.1 then some p.2 else R x)(hto:UF W0 E H K M I b G w w' R' (i+1) [] 0):∃G',Fill W0 E H K M I b w0 w' G' l (i+1) v n xs:=by
 obtain⟨G',h1,h2,h3⟩:=hto;have hsz:=h.below.size;have hlt:∀q∈v.ownBlock.toList,q<w.heap.size:=fun q hq=>(h.row.lt q (by simpa using hq)).2;refine⟨G',⟨R',h1,fun k u=> ?_⟩,Qm h.row h3 h.apart,fun q hq hg=> ?_,fun q hq=> ?_,h.below.trans (h3.below (fun q hq=>h.from_ q hq) hsz)⟩
 ·rw[hR',List.take_add_one,hp];simp only[Option.toList_some,List.mem_append,List.mem_singleton];by_cases hk:k=p.1
  ·rw[if_pos hk];constructor
   ·intro e;refine .inr ?_;rw[←Option.some.inj e,hk]
   ·rintro(e|e)
    ·have:=(hR k u).2 e;rw[hk,hn]at this;cases this
    ·rw[←e]
  ·rw[if_neg hk,hR];constructor
   ·exact .inl
   ·rintro(e|e)
    ·exact e
    ·exact absurd (congrArg Prod.fst e) hk
 ·rcases h2 q hg with k|k
  ·exact h.apart q hq k
  ·have:=hlt q hq;omega
 ·rcases h2 q hq with k|k
  ·exact h.from_ q k
  ·omega
end Go.Proofs.YtgiaobmcbbfmnaaGreatDoor

/-! SnapOrder: the chapter's example. -/
namespace Go.Proofs.YtgiaobmcbbfmnaaGreatDoor
set_option maxRecDepth 100000
set_option maxHeartbeats 8000000
open Ieee Go.RowKit pz dw lY jY
theorem aeO:gq [(1,2)]=[48,120,49,32,48,120,50,10]:=by decide
theorem adH:gT [(1,2)]:=by unfold gT;simp
theorem Rh {W0:World}{E:Nat→Addr}{w:World}(hE:Env W0 E w)(h6:dP E W0 6)(hT:W0.cell? ⟨25,15,none⟩=some (.int .u8 4)):
  Calls Tryz.prog 4 #[] w fun y w'=>y= .returned (.bool true)∧Below w.heap.size w w':=by
 have HN:=qd (XB (fun _=>3) hE 1 5 1 (by decide) 1 5 1 (by omega) (by omega));have HE:=qd hE;have HX:=qd (And.intro h6 hT);unfold je at HN;clear hE h6 hT;go_in;go_wp2_with fail;refine HN.out.mono ?_;rintro y w1 ⟨b,G,rfl,hA1,hG1,hb1⟩;have hpt:=ac0 hA1 ⟨1,2,3⟩ ⟨rfl,by decide,by decide,by decide⟩;rw[show noRoom 5 none 0=false from by decide]at hpt;simp only[Bool.false_eq_true,if_false,KA]at hpt;have vG:=qd hpt;have HG:=qd (And.intro hG1 hb1);clear hA1 hG1 hb1 hpt HN;go_wp2_with fail;refine vG.out.mono ?_;rintro y w2 ⟨rfl,G2,hA2,hs2,hm2⟩;have kW:=qd (abV hA2 (by omega) (by omega) HX.out.1);have HB2:=qd (show Below w.heap.size w w2∧∀q∈G2,w.heap.size≤q from⟨HG.out.2.trans (hm2.below HG.out.1 HG.out.2.size),fun q hq=>(hs2 q hq).elim (HG.out.1 q) (fun k=>by have:=HG.out.2.size;omega)⟩);clear hA2 hs2 hm2 vG HG;go_wp2_with fail;refine kW.out.mono ?_;rintro y w3 ⟨v,l,G3,rfl,hasc,hget,ho3,hap,hA3,hs3,kI⟩
 obtain rfl:l=[(1,2)]:=XY hasc adH fun k=>by
  rw[hget];unfold UD;rw[show noRoom 5 none 0=false from by decide];simp only[Bool.false_eq_true,if_false];by_cases hk:k=1
  ·subst hk;rfl
  ·rw[if_neg hk];symm;rw[oo];intro p hp;obtain rfl:=List.mem_singleton.1 hp;exact fun e=>hk e.symm
 obtain⟨A,c,rfl⟩:=bA ho3;have xU:w3.cell? ⟨25,15,none⟩=some (.int .u8 4):=aA (hA3.env.below) HX.out.2;have htx:=vC (c:=c) (Reads.eF ho3) (by decide) (by decide) xU;rw[aeO]at htx;unfold fO at htx;have bq:=qd htx;have HB3:=qd (HB2.out.1.trans (kI.below HB2.out.2 HB2.out.1.size));clear hasc hget ho3 hap hA3 hs3 kI xU htx kW HB2;go_wp2_with fail;refine bq.out.mono ?_;rintro y w4 ⟨rfl,hb4⟩;have Sq:=qd (HB3.out.trans (hb4.mono HB3.out.size));clear hb4 HB3;go_wp2;go_ret;exact⟨rfl,Sq.out⟩
end Go.Proofs.YtgiaobmcbbfmnaaGreatDoor

/-! The number of an error of package api (amblernum.Num). -/
namespace Go.Proofs.YtgiaobmcbbfmnaaGreatDoor
set_option maxRecDepth 100000
set_option maxHeartbeats 8000000
open Ieee Go.RowKit pz dw lY jY
variable {E : Nat → Addr} {w : World}
theorem Qq (E:Nat→Addr)(k:Nat)(h:k<16):(qI E)[k]?=some (.iface 379 (.pointer (some (E (k+1))))):=by
 unfold qI;rw[List.getElem?_map,List.getElem?_range h];rfl
theorem abW (h:eX E w)(j:Nat)(h1:1≤j)(h2:j≤16):
  Calls Tryz.prog 16 #[.iface 379 (.pointer (some (E j)))] w fun e w'=>e= .returned (.int .i64 j)∧Below w.heap.size w w':=by
 have hS:=h.alloc (.cells (qI E).toArray 27);have hcells:=aj.new w 27 (qI E).toArray;have hB:Below w.heap.size w (w.alloc (.cells (qI E).toArray 27)):=(Below.refl _ _).alloc (Nat.le_refl _) _;go_in;go_wp2_with (go_at_call 34;refine(abj h).mono ?_;rintro e w1 ⟨rfl,rfl⟩);obtain⟨W,hW⟩:∃W,W=w.alloc (.cells (qI E).toArray 27):=⟨_,rfl⟩;rw[←hW]at hS hcells hB⊢;clear hW;go_loop [3,4,9] (fun _ _ i=>∃k:Nat,k<j∧i= .int .i64 k) (fun _ _ i=>16-(intOf i).toNat)
 case atStart=>exact⟨0,by omega,rfl⟩
 case round=>
  obtain⟨k,hk,rfl⟩:=hrel
  have hc:W.cell? ⟨w.heap.size,k,none⟩=some (.iface 379 (.pointer (some (E (k+1))))):=by rw[hcells.cell k,List.getElem?_toArray];exact Qq E k (by omega)
  have hi:=abh hS j (k+1) h1 h2 (by omega) (by omega);by_cases hjk:j=k+1
  ·have hb:(j==k+1)=true:=by simp[hjk]
   rw[hb]at hi;have Hjk:=qd hjk;clear hjk hb;go_wp2_with (go_at_call 35;refine hi.mono ?_;rintro e w1 ⟨rfl,rfl⟩);go_ret;exact⟨gD (by have:=Hjk.out;omega),hB⟩
  ·have hb:(j==k+1)=false:=by simp[hjk]
   rw[hb]at hi;clear hb;go_wp2_with (go_at_call 35;refine hi.mono ?_;rintro e w1 ⟨rfl,rfl⟩);go_round
   case rel=>exact⟨k+1,by omega,by go_num⟩
   case measure=>simp[intOf];omega
theorem abX (h:eX E w)(j:Nat)(h2:j≤16):
  Calls Tryz.prog 16 #[jV E j] w fun e w'=>e= .returned (.int .i64 j)∧Below w.heap.size w w':=by
 by_cases h0:j=0
 ·subst h0;exact(abk w).mono fun e w' ⟨he,hw⟩=>⟨he,hw▸Below.refl _ _⟩
 ·rw[jH E (by omega)];exact abW h j (by omega) h2
end Go.Proofs.YtgiaobmcbbfmnaaGreatDoor

/-! SnapBack: a snapshot's text is parsed to it; unlike snapshots have unlike texts; a map all of whose iterators are open has none. -/
namespace Go.Proofs.YtgiaobmcbbfmnaaGreatDoor
set_option maxRecDepth 100000
set_option maxHeartbeats 8000000
open Ieee Go.RowKit pz dw lY jY
theorem Ca (l:PL):(dG l).length≤l.length:=by
 have:∀(l t:PL),gT t→(l.foldl (fun t p=>jT t p.1 p.2) t).length≤t.length+l.length:=by
  intro l
  induction l with
  |nil=>intro t _;simp
  |cons p l ih=>
   intro t ht;have h1:=ih (jT t p.1 p.2) (uo ht p.1 p.2);rw[ET ht]at h1;rw[List.foldl_cons,List.length_cons]
   split at h1<;>omega
 simpa[dG]using this l [] List.Pairwise.nil
theorem Mc {l:PL}{p:Nat×Nat}(h:p∈dG l):p∈l:=by
 have:∀(l t:PL),gT t→p∈l.foldl (fun t p=>jT t p.1 p.2) t→p∈t∨p∈l:=by
  intro l
  induction l with
  |nil=>intro t _ h;exact .inl h
  |cons x l ih=>
   intro t ht h;rw[List.foldl_cons]at h;rcases ih _ (uo ht x.1 x.2) h with h|h
   ·rcases(xJ ht).1 h with rfl|⟨h,_⟩
    ·exact .inr (by simp)
    ·exact .inl h
   ·exact .inr (by simp[h])
 rcases this l [] List.Pairwise.nil h with h|h
 ·cases h
 ·exact h
theorem aak {k m i:Int}(h:uV k m i=true):((1≤k.toNat∧k.toNat≤64)∧(1≤m.toNat∧m.toNat≤192)∧k=(k.toNat:Int)∧m=(m.toNat:Int)∧i=(i.toNat:Int))∧(1≤i.toNat∧i.toNat≤8):=by
 unfold uV Ct at h;simp at h;omega
def qp (B:Nat)(w:World)(fb gb:Nat)(S T:PL):Prop:=∃F G,rC B w fb 200 F S∧rC B w gb 200 G T∧∀q∈F,q∉G
section
variable {B : Nat} {w w' : World} {fb gb : Nat} {S T S' : PL}
theorem qp.symm (h:qp B w fb gb S T):qp B w gb fb T S:=by
 obtain⟨F,G,h1,h2,h3⟩:=h;exact⟨G,F,h2,h1,fun q hq hg=>h3 q hg hq⟩
theorem qp.below (h:qp B w fb gb S T)(hb:Below w.heap.size w w'):qp B w' fb gb S T:=by
 obtain⟨F,G,h1,h2,h3⟩:=h;exact⟨F,G,h1.below hb,h2.below hb,h3⟩
theorem qp.put (h:qp B w fb gb S T)(hS:S.length≤100)(hB:B≤w.heap.size)(a b:Nat):Calls Tryz.prog 7 #[.pointer (some ⟨fb,0,none⟩),.int .u64 (a:Int),.int .u64 (b:Int)] w fun y w'=>y= .returned .nilIface∧qp B w' fb gb (jT S a b) T∧Below B w w':=by
 obtain⟨F,G,h1,h2,h3⟩:=h;refine(VT h1 (by omega) a b (fun _=>by omega) (by omega)).mono ?_;rintro y w' ⟨rfl,F',h4,h5,h6⟩;refine⟨rfl,⟨F',G,h4,h2.mod h6 (fun q hq=>h3 q hq),fun q hq hg=> ?_⟩,h6.below (fun q hq=>(h1.gJ q hq).2) hB⟩;rcases h5 q hq with k|k
 ·exact h3 q k hg
 ·have:=(h2.gJ q hg).1;omega
end
theorem Qr {E:Nat→Addr}{w:World}{la lb:PL}{A0 B0:Option Addr}{ca cb:Nat}(k m i:Int)(hla:Reads w w.heap.size 2 A0 la.length (la.flatMap bW))(hlb:Reads w w.heap.size 2 B0 lb.length (lb.flatMap bW))(h64:∀p∈la,p.1<18446744073709551616∧p.2<18446744073709551616)(adb:∀p∈lb,p.1<18446744073709551616∧p.2<18446744073709551616)(hE:Env w E w)(hEr:eX E w)(hWd:fQ E w)(hN:iL E w)(hT:w.cell? ⟨25,15,none⟩=some (.int .u8 4)):
  Calls Tryz.prog 3 #[je k m i,.slice A0 la.length ca,.slice B0 lb.length cb] w fun y w'=>y= .returned (.bool true)∧Below w.heap.size w w':=by
 have HAl:=qd (fun(W:World) (hb:Below w.heap.size w W)=>Rh (hE.next hb) (hEr.at_ 6 (by omega) (by omega)) hT);have HLa:=qd hla;have vF:=qd hlb;have HX:=qd (And.intro h64 (And.intro adb (And.intro hE hEr)));have HY:=qd (And.intro hWd (And.intro hN hT));unfold je;clear h64 adb hE hEr hWd hN hT hla hlb;go_in;go_upto_region 1 with fail;refine dI (F:=fun v=>aj v w.heap.size 23 #[.int .i64 k,.int .i64 m,.int .i64 i]∧Below w.heap.size w v) ⟨aj.new w 23 #[.int .i64 k,.int .i64 m,.int .i64 i],(Below.refl w.heap.size w).alloc (Nat.le_refl _) _⟩ ?_;rintro w1 ⟨hB1,hb1⟩;obtain⟨bc,hbc⟩:∃bc,bc=w.heap.size:=⟨_,rfl⟩;rw[←hbc]at hB1⊢;have jy:=qd hB1;have HB1:=qd hb1;have HA1:=qd (HAl.out w1 hb1);clear hB1 hb1 hbc HAl;go_wp2_with fail;refine HA1.out.mono ?_;rintro y w2 ⟨rfl,hb2⟩;have HB2:=qd (HB1.out.trans (hb2.mono HB1.out.size));have mM:=qd (jy.out.below hb2 jy.out.lt);clear hb2 HA1 HB1 jy;by_cases hlong:100<la.length
 ·have XH:(100:Int)<(la.length:Int):=by omega
  go_wp2;go_ret;exact⟨rfl,HB2.out⟩
 have XH:¬(100:Int)<(la.length:Int):=by omega
 by_cases ade:100<lb.length
 ·have Sr:(100:Int)<(lb.length:Int):=by omega
  go_wp2;go_ret;exact⟨rfl,HB2.out⟩
 have Sr:¬(100:Int)<(lb.length:Int):=by omega
 obtain⟨x0,x1,x2⟩:=mM.out.c3
 cases hcf:uV k m i with
 |false=>
  have hck:=wW k m i w2 (HX.out.2.2.1.next HB2.out).errs;rw[hcf,if_neg (by decide),jH E (by omega:1≤1)]at hck;have Sv:=qd hck;unfold je at Sv;clear hck hcf;go_wp2_with fail;refine Sv.out.mono ?_;rintro y w3 ⟨rfl,hb3⟩;go_wp2;go_ret;exact⟨rfl,HB2.out.trans (hb3.mono HB2.out.size)⟩
 |true=>
 have hck:=wW k m i w2 (HX.out.2.2.1.next HB2.out).errs;rw[hcf,if_pos rfl]at hck;have Sv:=qd hck;unfold je at Sv;have HCf:=qd hcf;clear hck hcf;go_wp2_with fail;refine Sv.out.mono ?_;rintro y w3 ⟨rfl,hb3⟩;have HB3:=qd (HB2.out.trans (hb3.mono HB2.out.size));have lT:=qd (mM.out.below hb3 mM.out.lt);have lq:=qd (NG 200 w3);clear hb3 Sv HB2 mM x0 x1 x2;go_wp2_with fail;refine lq.out.mono ?_;rintro y w4 ⟨rfl,hf4,hb4⟩;obtain⟨fb,lN⟩:∃fb,fb=w3.heap.size:=⟨_,rfl⟩;rw[←lN]at hf4⊢;have HF4:=qd hf4;have Sq:=qd hb4;have HFb:=qd lN;have HNg:=qd (NG 200 w4);clear hf4 hb4 lN lq;go_wp2_with fail;refine HNg.out.mono ?_;rintro y w5 ⟨rfl,hg5,hb5⟩;obtain⟨gb,hgb⟩:∃gb,gb=w4.heap.size:=⟨_,rfl⟩;rw[←hgb]at hg5⊢
 have HD:=qd (show qp w3.heap.size w5 fb gb (dG (la.take 0)) (dG (lb.take 0))from
  ⟨_,_,J8 (HF4.out.below hb5) (Nat.le_of_eq (by first|rfl|rw[HFb.out])),J8 hg5 (by rw[hgb];exact Sq.out.size),fun q hq hg=>by have h1:=(HF4.out.gJ q hq).1;have h2:=(hg5.gJ q hg).2;omega⟩)
 have Cy:=qd (Sq.out.trans (hb5.mono Sq.out.size));clear hg5 hb5 hgb HNg HF4 Sq HFb;go_wp2;go_loopw [41] (fun v41 wr=>∃j:Nat,j≤la.length∧v41= .int .i64 (j:Int)∧Hid (qp w3.heap.size wr fb gb (dG (la.take j)) (dG (lb.take 0)))∧Hid (Below w3.heap.size w3 wr)) (fun v41 _=>la.length-(intOf v41).toNat)
 case atStart=>exact⟨0,by omega,rfl,HD,Cy⟩
 case round=>
  clear HD Cy;obtain⟨j,hj,rfl,HD,Cy⟩:=hrel;by_cases hlt:j<la.length
  ·have hlt':(j:Int)<(la.length:Int):=by omega
   have hj0:(0:Int)≤(j:Int):=by omega
   have hwj:IntKind.i64.wrap ((j:Int)+1)=((j+1:Nat):Int):=by rw[IntKind.wrap_i64];omega
   obtain⟨q,hq⟩:∃q,la[j]?=some q:=⟨_,List.getElem?_eq_getElem hlt⟩;obtain⟨g,off,hA,hgl,hc⟩:=HLa.out.2 (by omega);have hbr:=HB3.out.trans (Cy.out.mono HB3.out.size);have r0:wr.cell? ⟨g,off+j*2,none⟩=some (.int .u64 (q.1:Int)):=aA hbr (hc (j*2+0) _ (fI hq (by omega)));have r1:wr.cell? ⟨g,off+j*2+1,none⟩=some (.int .u64 (q.2:Int)):=aA hbr (hc (j*2+1) _ (fI hq (by omega)));have kW:=qd (show dG (la.take (j+1))=jT (dG (la.take j)) q.1 q.2 from by rw[List.take_add_one,hq];exact CU _ _);have hal:=Ca (la.take j);rw[List.length_take]at hal;have oI:=qd (show(dG (la.take j)).length≤100 by omega);subst hA;clear hc hq hbr hal;go_upto_region 9 with fail;refine dI (F:=fun v=>aj v wr.heap.size 33 #[.int .u64 (q.1:Int),.int .u64 (q.2:Int)]∧Below wr.heap.size wr v) ⟨aj.new wr 33 #[.int .u64 (q.1:Int),.int .u64 (q.2:Int)],(Below.refl wr.heap.size wr).alloc (Nat.le_refl _) _⟩ ?_;rintro w6 ⟨mG,hb6⟩;have rE:=qd (Cy.out.trans (hb6.mono Cy.out.size));have DT:=qd ((HD.out.below hb6).put oI.out rE.out.size q.1 q.2);obtain⟨bx,hbx⟩:∃bx,bx=wr.heap.size:=⟨_,rfl⟩;rw[←hbx]at mG⊢;obtain⟨x0,x1⟩:=mG.c2;clear mG hb6 hbx HD Cy r0 r1;go_wp2_with fail;refine DT.out.mono ?_;rintro y w8 ⟨rfl,XI,iw⟩;have HD8:=qd (show qp w3.heap.size w8 fb gb (dG (la.take (j+1))) (dG (lb.take 0))from by rw[kW.out];exact XI);have vD:=qd (rE.out.trans iw);have HM:=qd (show la.length-(j+1)<la.length-j by omega);clear XI iw DT rE;go_wp2;go_roundw
   case measure=>simp[intOf];exact HM.out
   exact⟨j+1,by omega,rfl,HD8,vD⟩
  ·obtain rfl:j=la.length:=by omega
   have hlt':¬(la.length:Int)<(la.length:Int):=by omega
   have HD2:=qd (show qp w3.heap.size wr gb fb (dG (lb.take 0)) (dG la)from by have h:=HD.out.symm;rwa [List.take_length]at h);have nK:=Cy;clear HD Cy hlt hlt' hj;go_wp2;go_loopw [55] (fun v55 wr=>∃j:Nat,j≤lb.length∧v55= .int .i64 (j:Int)∧Hid (qp w3.heap.size wr gb fb (dG (lb.take j)) (dG la))∧Hid (Below w3.heap.size w3 wr)) (fun v55 _=>lb.length-(intOf v55).toNat)
   case atStart=>exact⟨0,by omega,rfl,HD2,nK⟩
   case round=>
    clear HD2 nK;obtain⟨j,hj,rfl,HD2,nK⟩:=hrel;by_cases hlt:j<lb.length
    ·have hlt':(j:Int)<(lb.length:Int):=by omega
     have hj0:(0:Int)≤(j:Int):=by omega
     have hwj:IntKind.i64.wrap ((j:Int)+1)=((j+1:Nat):Int):=by rw[IntKind.wrap_i64];omega
     obtain⟨q,hq⟩:∃q,lb[j]?=some q:=⟨_,List.getElem?_eq_getElem hlt⟩;obtain⟨g,off,hA,hgl,hc⟩:=vF.out.2 (by omega);have hbr:=HB3.out.trans (nK.out.mono HB3.out.size);have r0:wr.cell? ⟨g,off+j*2,none⟩=some (.int .u64 (q.1:Int)):=aA hbr (hc (j*2+0) _ (fI hq (by omega)));have r1:wr.cell? ⟨g,off+j*2+1,none⟩=some (.int .u64 (q.2:Int)):=aA hbr (hc (j*2+1) _ (fI hq (by omega)));have kW:=qd (show dG (lb.take (j+1))=jT (dG (lb.take j)) q.1 q.2 from by rw[List.take_add_one,hq];exact CU _ _);have hal:=Ca (lb.take j);rw[List.length_take]at hal;have oI:=qd (show(dG (lb.take j)).length≤100 by omega);subst hA;clear hc hq hbr hal;go_upto_region 15 with fail;refine dI (F:=fun v=>aj v wr.heap.size 33 #[.int .u64 (q.1:Int),.int .u64 (q.2:Int)]∧Below wr.heap.size wr v) ⟨aj.new wr 33 #[.int .u64 (q.1:Int),.int .u64 (q.2:Int)],(Below.refl wr.heap.size wr).alloc (Nat.le_refl _) _⟩ ?_;rintro w6 ⟨mG,hb6⟩;have rE:=qd (nK.out.trans (hb6.mono nK.out.size));have DT:=qd ((HD2.out.below hb6).put oI.out rE.out.size q.1 q.2);obtain⟨bx,hbx⟩:∃bx,bx=wr.heap.size:=⟨_,rfl⟩;rw[←hbx]at mG⊢;obtain⟨x0,x1⟩:=mG.c2;clear mG hb6 hbx HD2 nK r0 r1;go_wp2_with fail;refine DT.out.mono ?_;rintro y w8 ⟨rfl,XI,iw⟩;have HD8:=qd (show qp w3.heap.size w8 gb fb (dG (lb.take (j+1))) (dG la)from by rw[kW.out];exact XI);have vD:=qd (rE.out.trans iw);have HM:=qd (show lb.length-(j+1)<lb.length-j by omega);clear XI iw DT rE;go_wp2;go_roundw
     case measure=>simp[intOf];exact HM.out
     exact⟨j+1,by omega,rfl,HD8,vD⟩
    ·obtain rfl:j=lb.length:=by omega
     have hlt':¬(lb.length:Int)<(lb.length:Int):=by omega
     have HDa:=qd (show qp w3.heap.size wr fb gb (dG la) (dG lb)from by have h:=HD2.out.symm;rwa [List.take_length]at h);have HBw:=qd (HB3.out.trans (nK.out.mono HB3.out.size));have gP:=qd (lT.out.below nK.out lT.out.lt);have AY:=qd (show gT (dG la)∧(dG la).length≤100∧∀p∈dG la,p.1<18446744073709551616∧p.2<18446744073709551616 from⟨xK _,by have:=Ca la;omega,fun p hp=>HX.out.1 p (Mc hp)⟩);have FC:=qd (show(dG lb).length≤100∧∀p∈dG lb,p.1<18446744073709551616∧p.2<18446744073709551616 from⟨by have:=Ca lb;omega,fun p hp=>HX.out.2.1 p (Mc hp)⟩);obtain⟨S,hS⟩:∃S,S=dG la:=⟨_,rfl⟩;obtain⟨T,hT⟩:∃T,T=dG lb:=⟨_,rfl⟩;rw[←hS]at HDa AY;rw[←hT]at HDa FC;clear hS hT HD2 nK lT HB3 hlt hlt' hj hlong XH ade Sr;obtain⟨F,G,hF,hG,hFG⟩:=HDa.out;have HGg:=qd hG;have LJ:=qd (Gh hF (by have:=AY.out.2.1;omega));clear hF hG hFG HDa;go_wp2_with fail;refine LJ.out.mono ?_;rintro y w6 ⟨vx,rfl,hox,hb6⟩;obtain⟨Ax,cx,rfl⟩:=bA hox;have HOx:=qd hox;have rE:=qd (HBw.out.trans (hb6.mono HBw.out.size));have p9:=qd (gP.out.below hb6 gP.out.lt);have HPg:=qd (Gh (HGg.out.below hb6) (by have:=FC.out.1;omega));clear hox hb6 LJ HBw gP HGg;go_wp2_with fail;refine HPg.out.mono ?_;rintro y w7 ⟨vy,rfl,hoy,oJ⟩;obtain⟨Ay,cy,rfl⟩:=bA hoy;have aal:=qd (own_below HOx.out oJ (Nat.le_refl _));have adf:=qd hoy;have Aq:=qd (rE.out.trans (oJ.mono rE.out.size));have Jj:=qd (p9.out.below oJ p9.out.lt);have htx:=vC (c:=cx) (Reads.eF aal.out) (by have:=AY.out.2.1;omega) AY.out.2.2 (aA Aq.out HY.out.2.2);have bq:=qd htx
     clear hoy oJ htx HPg rE p9 HOx;obtain⟨sx,hsx⟩:∃sx:ByteArray,sx=⟨(gq S).toArray⟩:=⟨_,rfl⟩;have DJ:=qd hsx;unfold fO at bq;rw[←hsx]at bq;clear hsx;go_wp2_with fail;refine bq.out.mono ?_;rintro y w8 ⟨rfl,iw⟩;have vD:=qd (Aq.out.trans (iw.mono Aq.out.size));have adg:=qd (own_below aal.out iw (Nat.le_refl _));have adh:=qd (own_below adf.out iw (Nat.le_refl _));have Cx:=qd (Jj.out.below iw Jj.out.lt);have hps:=UL (E:=E) S AY.out.1 AY.out.2.2 (by have:=AY.out.2.1;omega) w8 (HY.out.1.below vD.out (Nat.le_refl _)) (HY.out.2.1.below vD.out (Nat.le_refl _)) (aA vD.out HY.out.2.2);unfold fO at hps;rw[←DJ.out]at hps;have KH:=qd hps;clear iw hps bq Aq Jj aal adf;go_wp2_with fail;refine KH.out.mono ?_;rintro y w9 ⟨vl,rfl,hol,zf⟩;obtain⟨Al,cl,rfl⟩:=bA hol;have xY:=qd (vD.out.trans (zf.mono vD.out.size));have aam:=qd (own_below adg.out zf (Nat.le_refl _));have adi:=qd (own_below adh.out zf (Nat.le_refl _));have aan:=qd hol;have iI:=qd (Cx.out.below zf Cx.out.lt);clear hol zf KH vD Cx adg adh;go_upto_region 20 with fail
     go_cut [112]from 72 (fun aeP wx=>aeP= .bool false∧Hid (Below w9.heap.size w9 wx))
     case first=>
      have hle:=AY.out.2.1;have agK:=FC.out.1;have hs1:=Ez (c:=cl) (c':=cx) (Reads.eF aan.out) (Reads.eF aam.out) (by omega);rw[decide_eq_true (rfl:S=S)]at hs1;have gK:=qd hs1;obtain⟨sy,hsy⟩:∃sy:ByteArray,sy=⟨(gq T).toArray⟩:=⟨_,rfl⟩;have HSy:=qd hsy;clear hs1 hsy;go_wp2_with fail;refine gK.out.mono ?_;rintro y Wo ⟨rfl,uG⟩;have UQ:=qd uG;have UR:=qd (own_below aam.out uG (Nat.le_refl _));have aaR:=qd (own_below adi.out uG (Nat.le_refl _));have ht1:=vC (c:=cx) (Reads.eF UR.out) (by omega) AY.out.2.2 (aA (xY.out.trans (UQ.out.mono xY.out.size)) HY.out.2.2);unfold fO at ht1;rw[←DJ.out]at ht1;have HT1:=qd ht1;clear uG ht1 gK aan;go_wp2_with fail;refine HT1.out.mono ?_;rintro y OE ⟨rfl,uH⟩;have Cb:=qd (UQ.out.trans (uH.mono UQ.out.size));have aaS:=qd (own_below UR.out uH (Nat.le_refl _));have UU:=qd (own_below aaR.out uH (Nat.le_refl _));have ht2:=vC (c:=cy) (Reads.eF UU.out) (by omega) FC.out.2 (aA (xY.out.trans (Cb.out.mono xY.out.size)) HY.out.2.2);unfold fO at ht2;rw[←HSy.out]at ht2;have HT2:=qd ht2;clear uH ht2 HT1 UQ UR aaR;go_wp2_with fail;refine HT2.out.mono ?_;rintro y w12 ⟨rfl,GY⟩;have Eo:=qd (Cb.out.trans (GY.mono Cb.out.size));have Js:=qd (own_below aaS.out GY (Nat.le_refl _));have Jt:=qd (own_below UU.out GY (Nat.le_refl _));have hs2:=Ez (c:=cx) (c':=cy) (Reads.eF Js.out) (Reads.eF Jt.out) (by omega);clear GY HT2 Cb aaS UU;by_cases hST:S=T
      ·subst hST
       obtain rfl:sy=sx:=by rw[HSy.out,DJ.out]
       rw[decide_eq_true (rfl:S=S)]at hs2;have HS2:=qd hs2;clear hs2;go_wp2_with fail;refine HS2.out.mono ?_;rintro y w13 ⟨rfl,Cc⟩;have GZ:=qd (Eo.out.trans (Cc.mono Eo.out.size));have UW:=qd (own_below Js.out Cc (Nat.le_refl _));have UY:=qd (own_below Jt.out Cc (Nat.le_refl _));have hs3:=Ez (c:=cx) (c':=cy) (Reads.eF UW.out) (Reads.eF UY.out) (by omega);rw[decide_eq_true (rfl:S=S)]at hs3;have jg:=qd hs3;clear Cc hs3 HS2 Eo Js Jt;go_wp2_with fail;refine jg.out.mono ?_;rintro y w14 ⟨rfl,G5⟩;have Ka:=qd (GZ.out.trans (G5.mono GZ.out.size));have aaT:=qd (own_below UW.out G5 (Nat.le_refl _));have aaU:=qd (own_below UY.out G5 (Nat.le_refl _));have Rt:=qd (Oo (c:=cx) (Reads.eF aaT.out) (by omega) AY.out.2.2 (aA (xY.out.trans (Ka.out.mono xY.out.size)) HY.out.2.2));clear G5 jg GZ UW UY;go_wp2_with fail;refine Rt.out.mono ?_;rintro y w15 ⟨rfl,aao⟩;have UZ:=qd (Ka.out.trans (aao.mono Ka.out.size));have aaV:=qd (own_below aaU.out aao (Nat.le_refl _));have K3:=qd (Oo (c:=cy) (Reads.eF aaV.out) (by omega) AY.out.2.2 (aA (xY.out.trans (UZ.out.mono xY.out.size)) HY.out.2.2));clear aao Rt Ka aaT aaU;go_wp2_with fail;refine K3.out.mono ?_;rintro y w16 ⟨rfl,adj⟩;have aeQ:=qd (UZ.out.trans (adj.mono UZ.out.size));clear adj K3 UZ aaV;go_wp2;go_meet
       case rel=>exact⟨rfl,aeQ⟩
      ·rw[decide_eq_false hST]at hs2;have HS2:=qd hs2
       have hne:¬sx=sy:=fun e=>hST (VX AY.out.2.2 FC.out.2 (by
        have e1:=DJ.out;rw[e,HSy.out]at e1;have e2:=congrArg (fun b:ByteArray=>b.data.toList) e1
        simpa using e2.symm))
       have aeR:¬sx.toList=sy.toList:=fun e=>hne (by
        rw[ByteArray.toList_eq,ByteArray.toList_eq]at e;cases sx;cases sy
        exact congrArg ByteArray.mk (Array.toList_inj.1 e))
       have HST:=qd hST;clear hs2 hST hne;go_wp2_with fail;refine HS2.out.mono ?_;rintro y w13 ⟨rfl,Cc⟩;have GZ:=qd (Eo.out.trans (Cc.mono Eo.out.size));have hs3:=Ez (c:=cx) (c':=cy) (Reads.eF (own_below Js.out Cc (Nat.le_refl _))) (Reads.eF (own_below Jt.out Cc (Nat.le_refl _))) (by omega);rw[decide_eq_false HST.out]at hs3;have jg:=qd hs3;clear Cc hs3 HS2 Eo Js Jt;go_wp2_with fail;refine jg.out.mono ?_;rintro y w14 ⟨rfl,G5⟩;have Ka:=qd (GZ.out.trans (G5.mono GZ.out.size));clear G5 jg GZ;go_wp2;go_meet
       case rel=>exact⟨congrArg Value.bool (beq_eq_false_iff_ne.2 aeR),Ka⟩
     case rest=>
      obtain⟨rfl,Ma⟩:=hcut;have Qk:=qd (xY.out.trans (Ma.out.mono xY.out.size));have hxc:=iI.out.below Ma.out iI.out.lt;obtain⟨x0,x1,x2⟩:=hxc.c3;have HCr:=qd hxc;obtain⟨c1,c2⟩:=aak HCf.out;have Jm:=qd (And.intro c1 c2);have HNm:=qd (XB (fun _=>0) (HX.out.2.2.1.next Qk.out) k m i HCf.out k.toNat m.toNat i.toNat c1 c2);unfold je at HNm;clear hxc c1 c2 Ma xY iI aan aam adi DJ AY FC;go_wp2_with fail;refine HNm.out.mono ?_;rintro y Wo ⟨mb,G,rfl,hA,hG,uG⟩;have kD:=qd (show∃G,Qo w E (fun _=>0) k.toNat m.toNat i.toNat mb G Wo (fun _=>none) 0 0∧∀q∈G,w.heap.size≤q from⟨G,⟨[],rfl,hA⟩,fun q hq=>Nat.le_trans Qk.out.size (hG q hq)⟩);have LK:=qd (HCr.out.below uG HCr.out.lt);have FT:=qd (Qk.out.trans (uG.mono Qk.out.size));have x2:=LK.out.cell 2;simp only[gl]at x2;have hIi:=Jm.out.1.2.2.2.2;obtain⟨I,hI⟩:∃I,I=i.toNat:=⟨_,rfl⟩;rw[←hI]at hIi kD;have HI:=qd (show 1≤I∧I≤8 from by rw[hI];exact Jm.out.2);rw[hIi]at x2;clear hA hG uG hI HNm HCr Qk Jm x0 x1 LK;go_wp2;go_loopw [126] (fun aap wr=>∃j:Nat,j≤I∧aap= .int .i64 (j:Int)∧Hid (∃G,Qo w E (fun _=>0) k.toNat m.toNat I mb G wr (fun _=>none) 0 j∧∀q∈G,w.heap.size≤q)∧Hid (Below w.heap.size w wr)) (fun aap _=>I-(intOf aap).toNat)
      case atStart=>exact⟨0,by omega,rfl,kD,FT⟩
      case round=>
       clear kD FT;obtain⟨j,hj,rfl,kD,FT⟩:=hrel;by_cases hlt:j<I
       ·have hlt':(j:Int)<(I:Int):=by omega
        have hwj:IntKind.i64.wrap ((j:Int)+1)=((j+1:Nat):Int):=by have:=HI.out;rw[IntKind.wrap_i64];omega
        obtain⟨G,hM,hG⟩:=kD.out;have xW:=qd (aaj hM hlt (by have:=HI.out;omega));have HG:=qd hG;clear hM hG kD;go_wp2_with fail;refine xW.out.mono ?_;rintro y OE ⟨rfl,G',hM',hs',hm'⟩;have K3:=qd (show∃G,Qo w E (fun _=>0) k.toNat m.toNat I mb G OE (fun _=>none) 0 (j+1)∧∀q∈G,w.heap.size≤q from⟨G',hM',fun q hq=>(hs' q hq).elim (HG.out q) (fun h=>Nat.le_trans FT.out.size h)⟩);have HB2:=qd (FT.out.trans (hm'.below HG.out FT.out.size));have HM:=qd (show I-(j+1)<I-j by omega);clear hM' hs' hm' xW HG FT;go_wp2;go_roundw
        case measure=>simp[intOf];exact HM.out
        exact⟨j+1,by omega,rfl,K3,HB2⟩
       ·obtain rfl:j=I:=by omega
        have hlt':¬(j:Int)<(j:Int):=by omega
        obtain⟨G,hM,hG⟩:=kD.out;have kW:=qd (J9 hM (Nat.le_refl _) (HX.out.2.2.2.at_ 7 (by omega) (by omega)));clear hM hG kD;go_wp2_with fail;refine kW.out.mono ?_;rintro y OE ⟨rfl,uH⟩;have Cb:=qd (FT.out.trans (uH.mono FT.out.size));have HN7:=qd (show Calls Tryz.prog 16 #[jV E 7] OE (fun e w'=>e= .returned (.int .i64 7)∧Below OE.heap.size OE w')from abX (HX.out.2.2.2.below Cb.out (Nat.le_refl _)) 7 (by omega));clear uH kW FT;go_wp2_with fail;refine HN7.out.mono ?_;rintro y w12 ⟨rfl,GY⟩;have Eo:=qd (Cb.out.trans (GY.mono Cb.out.size));clear GY HN7 Cb;go_wp2;go_ret;exact⟨rfl,Eo.out⟩
end Go.Proofs.YtgiaobmcbbfmnaaGreatDoor
