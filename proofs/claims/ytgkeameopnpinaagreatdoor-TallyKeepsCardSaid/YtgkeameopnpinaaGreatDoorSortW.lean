/- Floats in their one form, and the keys of the forms: the plain law. No program in sight. -/
import Derived.Test.YtgkeameopnpinaaGreatDoorGaugeA
import Derived.Test.YtgkeameopnpinaaGreatDoorTabP
import Derived.Test.YtgkeameopnpinaaGreatDoorMpA
import Derived.Test.YtgkeameopnpinaaGreatDoorLaneP
import Derived.Test.YtgkeameopnpinaaGreatDoorCoI
import Derived.Test.YtgkeameopnpinaaGreatDoorFloatP
import Derived.Shelf.SlSortCmp.Insertion
import Derived.Shelf.GgSortFunc.InsertionK
import Derived.Shelf.SlSortCmp.WholeK
import Derived.Test.YtgkeameopnpinaaGreatDoorProg
namespace Go.Proofs.YtgkeameopnpinaaGreatDoor.lH
set_option maxRecDepth 100000
set_option maxHeartbeats 4000000
open Go.RowKit lH bY Go.Shelf
open Go.Sort (Holds PermIn SortedIn SWO putRow putCells grow mapBlock onCells HoldsK putRowK flatK get_flatK size_flatK)
variable {x : Nat}
def RD (x:Nat):Nat:=if dX x then 9221120237041090560 else if rung x=0 then 0 else x
def afl (x:Nat):Nat:=if oW (RD x)then 18446744073709551615-RD x else RD x+9223372036854775808
end Go.Proofs.YtgkeameopnpinaaGreatDoor.lH

/-! order.Form, Bits, Key, fmap.Hash and amblerref27.Form by their contracts. No statement of the claim. -/
namespace Go.Proofs.YtgkeameopnpinaaGreatDoor
set_option maxRecDepth 100000
set_option maxHeartbeats 4000000
open Go.RowKit lH bY Go.Shelf
open Go.Sort (Holds PermIn SortedIn SWO putRow putCells grow mapBlock onCells HoldsK putRowK flatK get_flatK size_flatK)
variable {x : Nat}
def aea (k:Nat):Nat:=k*11400714819323198485 % 18446744073709551616
end Go.Proofs.YtgkeameopnpinaaGreatDoor

/-! A map of floats as one thing: its block, its map, as a function of keys. No statement of the claim. -/
namespace Go.Proofs.YtgkeameopnpinaaGreatDoor
set_option maxRecDepth 100000
set_option maxHeartbeats 4000000
open Go.RowKit lH bY Go.Shelf
open Go.Sort (Holds PermIn SortedIn SWO putRow putCells grow mapBlock onCells HoldsK putRowK flatK get_flatK size_flatK)
variable {es es' : List av}
def afm (es:List av):Nat→Option Nat:=fun k=>(look es k).map av.val
def afn (R:Nat→Option Nat)(k:Nat)(v:Option Nat):Nat→Option Nat:=fun x=>if x=k then v else R x
def upN (o:Option Nat)(n:Nat):Nat:=if o.isSome then n else n+1
def dnN (o:Option Nat)(n:Nat):Nat:=if o.isSome then n-1 else n
section
variable {W0 : World} {E : Nat → Addr} {K M I fb b : Nat} {G F : List Nat} {w w' : World} {R R' : Nat → Option Nat} {n n' : Nat} {its oM : List It} {gv oV : Nat} {a : Pool} {ids : List Nat} {eP : aZ}
end
end Go.Proofs.YtgkeameopnpinaaGreatDoor

/-! Package fmap by its contracts. No statement of the claim. -/
namespace Go.Proofs.YtgkeameopnpinaaGreatDoor
set_option maxRecDepth 100000
set_option maxHeartbeats 4000000
open Go.RowKit lH bY Go.Shelf
open Go.Sort (Holds PermIn SortedIn SWO putRow putCells grow mapBlock onCells HoldsK putRowK flatK get_flatK size_flatK)
variable {E : Nat → Addr} {w : World} {its : List It}
end Go.Proofs.YtgkeameopnpinaaGreatDoor

/-! A row of pairs of the call's own, and what the library's sort leaves of it. No statement of the claim. -/
namespace Go.Proofs.YtgkeameopnpinaaGreatDoor
set_option maxRecDepth 100000
set_option maxHeartbeats 4000000
open Go.RowKit lH bY Go.Shelf
open Go.Sort (Holds PermIn SortedIn SWO putRow putCells grow mapBlock onCells HoldsK putRowK flatK get_flatK size_flatK)
theorem Gu {w:World}{base g n c sz:Nat}{t:TypeId}{xs:List Value}(h:w.ownsRow base t sz (.slice (some ⟨g,0,none⟩) n c) n xs):Holds id w g 0 xs.toArray∧g<w.heap.size∧base≤g:=by
 obtain⟨h1,h2⟩:=h;rcases h2 with⟨h2,_⟩|⟨g',cap,cur,hv,hg,hh,hcap,hmax,hsz,htk⟩
 ·cases h2
 ·injection hv with hv _ _
  injection hv with hv
  injection hv with hv _ _
  subst hv;refine⟨fun j hj=>⟨?_, ?_⟩,(Array.getElem?_eq_some_iff.1 hh).1,hg⟩
  ·have hj':j<xs.length:=by simpa using hj
   have e1:(cur.toList.take (n*sz))[j]?=some xs[j]:=by rw[htk];simp[hj']
   rw[List.getElem?_take_of_lt (by omega)]at e1;simp only[World.cell?,hh]
   have e2:(xs.toArray)[j]! =xs[j]:=by simp[hj']
   rw[e2];simpa using e1
  ·simp[World.frozen?,hh]
theorem XU {w:World}{base g n c sz:Nat}{t:TypeId}{xs xs':List Value}(h:w.ownsRow base t sz (.slice (some ⟨g,0,none⟩) n c) n xs)(hl:xs'.length=n*sz)(q:Nat)(os:Array Obj):
  (grow (putRow id (Sort.ahead w q) g 0 xs'.toArray) os).ownsRow base t sz (.slice (some ⟨g,0,none⟩) n c) n xs'∧Mod [g] w (grow (putRow id (Sort.ahead w q) g 0 xs'.toArray) os):=by
 obtain⟨hH,hlt,hbg⟩:=Gu h;obtain⟨h1,h2⟩:=h;rcases h2 with⟨h2,_⟩|⟨g',cap,cur,hv,hg,hh,hcap,hmax,hsz,htk⟩
 ·cases h2
 ·injection hv with hv _ hc
  injection hv with hv
  injection hv with hv _ _
  subst hv hc
  have hcell:(grow (putRow id (Sort.ahead w q) g 0 xs'.toArray) os).heap[g]?=some (.cells (putCells id 0 xs'.toArray cur) t (0,0)):=by
   rw[Go.Sort.heap_grow_old _ _ (by simpa using hlt)];show((w.heap).modify g _)[g]?=_;rw[Array.getElem?_modify,if_pos rfl,hh];rfl
  have hmul:n*sz≤c*sz:=Nat.mul_le_mul_right _ hcap;refine⟨⟨hl,.inr ⟨g,c,_,rfl,hg,hcell,hcap,hmax,by simp[putCells,hsz], ?_⟩⟩,rfl,rfl,rfl,by simp,fun k hk hne=> ?_⟩
  ·apply List.ext_getElem?;intro i;by_cases hi:i<n*sz
   ·rw[List.getElem?_take_of_lt (by omega)]
    have hic:i<cur.size:=by omega
    have hix:i<xs'.length:=by omega
    simp[putCells,hic,hix]
   ·rw[List.getElem?_eq_none (by simp;omega),List.getElem?_eq_none (by omega)]
  ·rw[Go.Sort.heap_grow_old _ _ (by simp;omega)];show((w.heap).modify g _)[k]?=_;rw[Array.getElem?_modify,if_neg (fun e=>hne (by simp[e]))]
def pC (p:Nat×Nat):List Value:=[nU p.1,nU p.2]
def afo (x y:Nat×Nat):Int:=if x.1<y.1 then-1 else if y.1<x.1 then 1 else 0
structure xR (base:Nat)(w:World)(t:TypeId)(sz:Nat)(v:Value)(n:Nat)(xs:List Value)(F:List Nat):Prop where
 row:w.ownsRow base t sz v n xs
 gs:∀g,v.ownBlock=some g→g∉F
section
variable {base n sz : Nat} {w w' : World} {t : TypeId} {v v' : Value} {xs ys : List Value} {F F' S : List Nat}
theorem NA (h:w.ownsRow base t sz v n xs)(hm:Mod S w w')(hS:∀k,v.ownBlock=some k→k∉S):w'.ownsRow base t sz v n xs:=by
 refine⟨h.1, ?_⟩;rcases h.2 with k|⟨g,cap,cur,h1,h2,h3,h4⟩
 ·exact .inl k
 ·refine .inr ⟨g,cap,cur,h1,h2, ?_,h4⟩;rw[hm.block g (Array.getElem?_eq_some_iff.1 h3).1 (hS g (by rw[h1];rfl))];exact h3
theorem xR.nil (w:World)(base:Nat)(t:TypeId)(sz:Nat)(F:List Nat):xR base w t sz (.slice none 0 0) 0 [] F:=⟨World.ownsRow_nil _ _ _ _,fun g hg=>by cases hg⟩
theorem xR.to (h:xR base w t sz v n xs F)(h2:∀q∈F',q∈F∨w.heap.size≤q)(hm:Mod F w w'):xR base w' t sz v n xs F':=
 ⟨NA h.row hm h.gs,fun g hg hq=>(h2 g hq).elim (h.gs g hg) (fun k=>by have:=(h.row.lt g hg).2;omega)⟩
theorem xR.below (h:xR base w t sz v n xs F)(hb:Below w.heap.size w w'):xR base w' t sz v n xs F:=⟨NA h.row (Mod.of_below hb []) (by simp),h.gs⟩
end
end Go.Proofs.YtgkeameopnpinaaGreatDoor

/-! slices.SortFunc at a struct, off the shelf. No statement of the claim. -/
namespace Go.Proofs
set_option maxRecDepth 100000
set_option maxHeartbeats 4000000
open Go.Shelf
open Go.Sort (Holds PermIn SortedIn SWO putRow putCells grow mapBlock onCells HoldsK putRowK flatK get_flatK size_flatK)
def Tryz.sortW_ren:Go.Shelf.Ren:=⟨fun|6=>20 |14=>40 |15=>41 |20=>72 |21=>73 |22=>74 |23=>75 |24=>76 |25=>77 |26=>78 |27=>79 |28=>80 |29=>81 |46=>114 |47=>115 |48=>116 |49=>117 |50=>118 |57=>155 |n=>n,fun|0=>0 |3=>3 |4=>4 |5=>5 |9=>9 |22=>39 |24=>43 |25=>63 |39=>103 |45=>145 |46=>146 |50=>140 |53=>152 |55=>23 |66=>207 |70=>211 |76=>260 |77=>254 |n=>n,fun|n=>n⟩
theorem Tryz.sortW:Go.Proofs.SlLaysF0.n6 Tryz.prog Tryz.sortW_ren:={
 mixed:=by kernel_rfl
 f6:=⟨Tryz.f20.name,by decide,Tryz.func20.trans (congrArg some (by kernel_rfl))⟩
 f14:=⟨Tryz.f40.name,by decide,Tryz.func40.trans (congrArg some (by kernel_rfl))⟩
 f15:=Tryz.func41.trans (congrArg some (by kernel_rfl))
 f20:=⟨Tryz.f72.name,by decide,Tryz.func72.trans (congrArg some (by kernel_rfl))⟩
 f21:=⟨Tryz.f73.name,by decide,Tryz.func73.trans (congrArg some (by kernel_rfl))⟩
 f22:=⟨Tryz.f74.name,by decide,Tryz.func74.trans (congrArg some (by kernel_rfl))⟩
 f23:=⟨Tryz.f75.name,by decide,Tryz.func75.trans (congrArg some (by kernel_rfl))⟩
 f24:=⟨Tryz.f76.name,by decide,Tryz.func76.trans (congrArg some (by kernel_rfl))⟩
 f25:=⟨Tryz.f77.name,by decide,Tryz.func77.trans (congrArg some (by kernel_rfl))⟩
 f26:=⟨Tryz.f78.name,by decide,Tryz.func78.trans (congrArg some (by kernel_rfl))⟩
 f27:=⟨Tryz.f79.name,by decide,Tryz.func79.trans (congrArg some (by kernel_rfl))⟩
 f28:=Tryz.func80.trans (congrArg some (by kernel_rfl))
 f29:=Tryz.func81.trans (congrArg some (by kernel_rfl))
 f46:=⟨Tryz.f114.name,by decide,Tryz.func114.trans (congrArg some (by kernel_rfl))⟩
 f47:=Tryz.func115.trans (congrArg some (by kernel_rfl))
 f48:=Tryz.func116.trans (congrArg some (by kernel_rfl))
 f49:=⟨Tryz.f117.name,by decide,Tryz.func117.trans (congrArg some (by kernel_rfl))⟩
 f50:=⟨Tryz.f118.name,by decide,Tryz.func118.trans (congrArg some (by kernel_rfl))⟩
 f57:=⟨Tryz.f155.name,by decide,Tryz.func155.trans (congrArg some (by kernel_rfl))⟩
 t0:=Tryz.underlying0
 a0:=Tryz.isAgg0
 z0:=Tryz.sizeOf0
 v0:=Tryz.zeroValue0
 t3:=Tryz.underlying3
 a3:=Tryz.isAgg3
 z3:=Tryz.sizeOf3
 v3:=Tryz.zeroValue3
 t4:=Tryz.underlying4
 a4:=Tryz.isAgg4
 z4:=Tryz.sizeOf4
 v4:=Tryz.zeroValue4
 t5:=Tryz.underlying5
 a5:=Tryz.isAgg5
 z5:=Tryz.sizeOf5
 v5:=Tryz.zeroValue5
 t9:=Tryz.underlying9
 a9:=Tryz.isAgg9
 z9:=Tryz.sizeOf9
 v9:=Tryz.zeroValue9
 t22:=Tryz.underlying39
 a22:=Tryz.isAgg39
 z22:=Tryz.sizeOf39
 v22:=Tryz.zeroValue39
 t25:=Tryz.underlying63
 a25:=Tryz.isAgg63
 z25:=Tryz.sizeOf63
 v25:=Tryz.zeroValue63
 t39:=Tryz.underlying103
 a39:=Tryz.isAgg103
 z39:=Tryz.sizeOf103
 v39:=Tryz.zeroValue103
 t45:=Tryz.underlying145
 a45:=Tryz.isAgg145
 z45:=Tryz.sizeOf145
 v45:=Tryz.zeroValue145
 t46:=Tryz.underlying146
 a46:=Tryz.isAgg146
 z46:=Tryz.sizeOf146
 v46:=Tryz.zeroValue146
 t50:=Tryz.underlying140
 a50:=Tryz.isAgg140
 z50:=Tryz.sizeOf140
 v50:=Tryz.zeroValue140
 t53:=Tryz.underlying152
 a53:=Tryz.isAgg152
 z53:=Tryz.sizeOf152
 v53:=Tryz.zeroValue152
 t55:=Tryz.underlying23
 a55:=Tryz.isAgg23
 z55:=Tryz.sizeOf23
 v55:=Tryz.zeroValue23
 t66:=Tryz.underlying207
 a66:=Tryz.isAgg207
 z66:=Tryz.sizeOf207
 v66:=Tryz.zeroValue207
 t70:=Tryz.underlying211
 a70:=Tryz.isAgg211
 z70:=Tryz.sizeOf211
 v70:=Tryz.zeroValue211
 t76:=Tryz.underlying260
 a76:=Tryz.isAgg260
 z76:=Tryz.sizeOf260
 v76:=Tryz.zeroValue260
 t77:=Tryz.underlying254
 a77:=Tryz.isAgg254
 z77:=Tryz.sizeOf254
 v77:=Tryz.zeroValue254 }
end Go.Proofs
