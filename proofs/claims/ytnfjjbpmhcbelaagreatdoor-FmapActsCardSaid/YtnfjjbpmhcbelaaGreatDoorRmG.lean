/- slices.SortFunc at pairs, off the shelf. -/
import Derived.Test.YtnfjjbpmhcbelaaGreatDoorFmD
import Derived.Test.YtnfjjbpmhcbelaaGreatDoorGaugeA
import Derived.Test.YtnfjjbpmhcbelaaGreatDoorSortL
import Derived.Shelf.SlSortCmp.WholeK
import Derived.Deep.LoopGhost
import Derived.Test.YtnfjjbpmhcbelaaGreatDoorMpA
import Derived.Test.YtnfjjbpmhcbelaaGreatDoorSqM
import Derived.Test.YtnfjjbpmhcbelaaGreatDoorAppAny
namespace Go.Proofs.YtnfjjbpmhcbelaaGreatDoor
set_option maxRecDepth 100000
set_option maxHeartbeats 4000000
open Go.RowKit dI kM
open Go.Sort (Holds PermIn SortedIn HoldsK grow grow_grow alloc_eq_grow)
open Go.Sort (Holds PermIn SortedIn SWO putRow grow grow_grow alloc_eq_grow HoldsK flatK)
theorem Xh (x:Int)(w:World):Calls Tryz.prog 95 #[.int .u64 x] w fun y w'=>y= .returned (.bool false)∧w=w':=by
 go_in;go_wp2;go_ret;exact⟨by simp,rfl⟩
theorem Qp (x y:Nat×Nat)(w:World):Calls Tryz.prog 68 #[nU x.1,nU y.1] w fun e w'=>e= .returned (.int .i64 (uO x y))∧w=w':=by
 have HN:=qd (fun(z:Int) (W:World)=>Xh z W);by_cases h1:x.1<y.1
 focus
  have h1':(x.1:Int)<(y.1:Int):=by omega
  have hv:uO x y= -1:=by unfold uO;rw[if_pos h1]
  rw[hv];clear hv h1
 rotate_left
 focus
  have h1':¬(x.1:Int)<(y.1:Int):=by omega
  by_cases h2:y.1<x.1
  focus
   have h2':(y.1:Int)<(x.1:Int):=by omega
   have hv:uO x y=1:=by unfold uO;rw[if_neg h1,if_pos h2]
  rotate_left
  focus
   have h2':¬(y.1:Int)<(x.1:Int):=by omega
   have hv:uO x y=0:=by unfold uO;rw[if_neg h1,if_neg h2]
  all_goals
   rw[hv];clear hv h1 h2
 all_goals
  go_in;go_wp2_with fail;refine(HN.out _ _).mono ?_;rintro e wq ⟨rfl,rfl⟩;go_wp2_with fail;refine(HN.out _ _).mono ?_;rintro e wq ⟨rfl,rfl⟩;go_wp2;go_ret;exact⟨rfl,rfl⟩
theorem abF (x y:Nat×Nat)(W:World):Calls Tryz.prog 67 #[.agg #[nU x.1,nU x.2],.agg #[nU y.1,nU y.2]] W fun e w'=>e= .returned (.int .i64 (uO x y))∧∃q os',w'=grow (W.drewN q) os':=by
 have HC:=qd (fun(W:World)=>Qp x y W);go_in;go_wp2_with fail;refine(HC.out _).mono ?_;rintro e wq ⟨rfl,rfl⟩;go_wp2;go_ret;exact⟨rfl,0,_,by rw[alloc_eq_grow,alloc_eq_grow,grow_grow];rfl⟩
theorem abG (w:World):(isAgg 90).run Tryz.prog w= .ok true w:=by kernel_rfl
theorem ZY (w:World):(Go.sizeOf 90).run Tryz.prog w= .ok 2 w:=by kernel_rfl
theorem JX (p:Option Addr)(cap:Nat)(fv:Value)(w:World):Calls Tryz.prog 132 #[.slice p 0 cap,.int .i64 0,.int .i64 0,fv] w fun e w'=>e= .returned (.tuple #[])∧w'=w:=by
 go_in;go_wp2;refine wp_loop_rounds 1 ?_;rw[rounds_succ];go_wp2;go_end0;exact⟨rfl,rfl⟩
theorem Z0 (p:Option Addr)(cap:Nat)(lim:Int)(fv:Value)(w:World):Calls Tryz.prog 93 #[.slice p 0 cap,.int .i64 0,.int .i64 0,.int .i64 lim,fv] w fun e w'=>e= .returned (.tuple #[])∧w'=w:=by
 have hi:=fun W=>JX p cap fv W;go_in;go_wp2;refine wp_loop_rounds 1 ?_;rw[rounds_succ];go_wp2_with fail;refine(hi _).mono ?_;rintro e w' ⟨rfl,rfl⟩;go_wp2
 (try simp only[Exit.inBlock,Exit.then]);refine bodyPost_ret (results_none rfl _ _ _) rfl ?_
 exact⟨rfl,rfl⟩
theorem Z4 (w:World):Calls Tryz.prog 94 #[.int .u64 0] w fun e w'=>e= .returned (.int .i64 0)∧w'=w:=by have h:=Any.bits_Len (SlLaysF0.n15.bits {Tryz.sortPair with}) 0 w (by omega) (by omega);exact h
theorem Xi (p:Option Addr)(cap:Nat)(fv:Value)(w:World):Calls Tryz.prog 66 #[.slice p 0 cap,fv] w fun e w'=>e= .returned (.tuple #[])∧w'=w:=by
 have hp:=fun lim W=>Z0 p cap lim fv W;have hl:=fun W=>Z4 W;go_in;go_wp2_with fail;refine(hl _).mono ?_;rintro e w' ⟨rfl,rfl⟩;go_wp2_with fail;refine(hp _ _).mono ?_;rintro e w' ⟨rfl,rfl⟩;go_wp2;go_end0;exact⟨rfl,rfl⟩
theorem Xj {blk off cap:Nat}{d:Array (Nat×Nat)}{w:World}(hH:HoldsK pC 2 w blk off d)(hblk:blk<w.heap.size)(hsz:d.size<4611686018427387904):Calls Tryz.prog 66 #[.slice (some ⟨blk,off,none⟩) d.size cap,.func (.func 67) #[] #[]] w fun e w'=>
  e= .returned (.tuple #[])∧∃d' n os,PermIn 0 d.size d d'∧SortedIn (ltOf uO) 0 d.size d'∧w'=sortWorldK pC 2 w blk off n d' os:=AnyQ.slices_SortFunc Tryz.sortPair 2 abG ZY pC (fun _=>rfl) (fun x v hv=>by simp[pC]at hv;rcases hv with rfl|rfl<;>rfl) uO aeE 67 #[] blk off cap d w (enters_of Tryz.func67 (by kernel_rfl) rfl) (fun _ _ _ _ x y=>abF x y _) hH hblk hsz
theorem Ud {base:Nat}{w:World}{v:Value}{l:List (Nat×Nat)}{F:List Nat}(h:gW base w 90 2 v l.length (l.flatMap pC) F)(hl:l.length≤100000):
  Calls Tryz.prog 66 #[v,.func (.func 67) #[] #[]] w fun y w'=>y= .returned (.tuple #[])∧∃l':List (Nat×Nat),l'.Perm l∧l'.Pairwise (fun a b=>a.1≤b.1)∧gW base w' 90 2 v l'.length (l'.flatMap pC) F∧Mod v.ownBlock.toList w w':=by
 rcases h.row.2 with⟨rfl,hn⟩|⟨g,cap,cur,rfl,hbg,hh,hcap,hmax,hsz,htk⟩
 ·refine(Xi none 0 _ w).mono ?_;rintro y w' ⟨rfl,rfl⟩;have h0:l=[]:=List.length_eq_zero_iff.1 hn;subst h0;exact⟨rfl,[],List.Perm.refl _,List.Pairwise.nil,h,Mod.refl _ _⟩
 ·have hrow:=h.row;obtain⟨hH,hlt,_⟩:=I9 hrow
  have hHK:HoldsK pC 2 w g 0 l.toArray:=by unfold HoldsK;rw[RA];exact hH
  have hc:=Xj (d:=l.toArray) (cap:=cap) hHK hlt (by simp;omega);simp only[List.size_toArray]at hc;refine hc.mono ?_;rintro y w' ⟨rfl,d',n,os,hp,hs,rfl⟩
  have hsz':d'.toList.length=l.length:=by have:=hp.1;simpa using this
  have hperm:d'.toList.Perm l:=by
   have:=hp.2.2;rw[show(d'.extract 0 l.length)=d' from by rw[show l.length=d'.size from by have:=hp.1;simpa using this.symm];simp,show l.toArray.extract 0 l.length=l.toArray from by simp]at this;exact this
  have hput:=ZX hrow (xs':=d'.toList.flatMap pC) (by rw[Lu,hsz']) n os;rw[←RA]at hput;refine⟨rfl,d'.toList,hperm, ?_,⟨by rw[hsz'];exact hput.1,h.gs⟩,hput.2⟩;rw[List.pairwise_iff_getElem];intro i j hi hj hij
  have hi':i<d'.size:=by simpa using hi
  have hj':j<d'.size:=by simpa using hj
  have:=hs i j (by omega) hij (by have:=hsz';simp at this;omega);rw[getElem!_pos d' i hi',getElem!_pos d' j hj',ltP]at this;simp only[decide_eq_false_iff_not]at this;simp only[Array.getElem_toList];omega
theorem Qq (x:Nat)(hx:x<18446744073709551616)(w:World):Calls Tryz.prog 44 #[.int .u64 (aA x:Int)] w fun y w'=>y= .returned (.tuple #[.float .f64 (aQ x),.nilIface])∧w=w':=by
 have hl:=ko hx;have hkl:=Em hx;have hsl:=uZ hl;have hk:=fun(W:World)=>vk (aQ x) hl W;rw[show aA (aQ x)=aA x from(XH hl hx).2 (sG x)]at hk;have HK:=qd hk;have hf:=fun(W:World)=>pJ (aQ x) W;rw[sG]at hf;have HF:=qd hf;have hxx:=@run_callFunc_extern Tryz.prog 37 _ Extern.MathFloatBits.float64frombits Tryz.func37 (by kernel_rfl) (by kernel_rfl) (by kernel_rfl) (by kernel_rfl);have GZ:=fun(n:Int) (W:World)=>show(Extern.MathFloatBits.float64frombits #[.int .u64 n]).run Tryz.prog W= .ok (.float .f64 n.toNat) W from rfl;have ha:=XL hkl;cases hs:jX (aQ x)
 case' true=>
  have hv:aA x=18446744073709551615-aQ x:=by unfold aA;rw[if_pos hs]
  have hge:=hsl.1 hs
  have hlt:(aA x:Int)<9223372036854775808:=by omega
  have hnx:bits .xor .u64 IntKind.u64.max (aA x:Int)=(aQ x:Int):=by rw[uP _ hkl];omega
  clear hk hf hs hsl hv hge hl hkl;go_in;go_upto_region 4 with fail;rw[show(if IntKind.u64.signed=true then(-1:Int)else IntKind.u64.max)=IntKind.u64.max from rfl,hnx];clear hnx
 case' false=>
  have hv:aA x=aQ x+9223372036854775808:=by unfold aA;rw[if_neg (by rw[hs];simp)]
  have hnl:=mt hsl.2 (by rw[hs];simp)
  have hlt:¬(aA x:Int)<9223372036854775808:=by omega
  have har:bits .andNot .u64 (aA x:Int) 9223372036854775808=(aQ x:Int):=by rw[ha];unfold rung;omega
  clear hk hf hs hsl hv hnl ha hl hkl;go_in
 all_goals
  go_wp2_with fail;refine(HK.out _).mono ?_;rintro e wq ⟨rfl,rfl⟩;go_wp2_with fail;refine(HF.out _).mono ?_;rintro e wq ⟨rfl,rfl⟩;go_wp2;refine bodyPost_ret (v:= .tuple #[.float .f64 (aQ x),.nilIface]) (by simp[results,Tryz.results44,go_sem]) rfl ⟨rfl,rfl⟩
section
def zu (i:Ei):Value:= .agg #[nI i.st,nU i.key,nU i.val]
def kK (its:List It)(id:Nat)(c:gP):List It:=its.map fun i=>if i.id=id then{i with c:=c} else i
theorem Qr {its:List It}(hn:(its.map It.cb).Nodup){i j:It}(hi:i∈its)(hj:j∈its)(h:i.cb=j.cb):i=j:=by
 induction its with
 |nil=>cases hi
 |cons x l ih=>
  rw[List.map_cons,List.nodup_cons]at hn;rcases List.mem_cons.1 hi with h1|h1
  ·rcases List.mem_cons.1 hj with h2|h2
   ·rw[h1,h2]
   ·exact absurd (show x.cb∈l.map It.cb from by rw[←h1,h];exact List.mem_map_of_mem h2) hn.1
  ·rcases List.mem_cons.1 hj with h2|h2
   ·exact absurd (show x.cb∈l.map It.cb from by rw[←h2,←h];exact List.mem_map_of_mem h1) hn.1
   ·exact ih hn.2 h1 h2
section
variable {w w' : World} {ib mb most given id cb : Nat} {its : List It} {c c' : gP}
theorem Pq:(kK its id c).map It.id=its.map It.id:=by
 unfold kK;rw[List.map_map];apply List.map_congr_left;intro i _;simp only[Function.comp_apply]
 split<;>rfl
theorem Z5:(kK its id c).map It.cb=its.map It.cb:=by
 unfold kK;rw[List.map_map];apply List.map_congr_left;intro i _;simp only[Function.comp_apply]
 split<;>rfl
theorem xA:bR ib mb (kK its id c)=bR ib mb its:=by unfold bR;rw[Z5]
theorem Xk:iD (kK its id c)=iD its:=by
 unfold iD kK;rw[List.map_map];apply List.map_congr_left;intro i _;simp only[Function.comp_apply]
 split<;>rfl
theorem gM.setCur (h:gM w ib mb most given its)(hi:⟨id,cb,c⟩∈its)(hc:fB w' cb c'){S:List Nat}(hm:Mod S w w')(hS:∀q∈S,q=cb∨q∉bR ib mb its):gM w' ib mb most given (kK its id c'):=by
 have hnf:=h.nf;unfold bR at hnf;rw[List.nodup_cons,List.nodup_cons]at hnf;have adb:cb∈its.map It.cb:=List.mem_map.2 ⟨_,hi,rfl⟩;have h1:ib∉S:=fun hh=>(hS _ hh).elim (fun k=>hnf.1 (by rw[k];exact List.mem_cons_of_mem _ adb)) (fun k=>k (by simp[bR]));have h2:mb∉S:=fun hh=>(hS _ hh).elim (fun k=>hnf.2.1 (by rw[k];exact adb)) (fun k=>k (by simp[bR]));refine⟨h.blk.mod hm h1,by rw[Xk];exact h.map.mod hm h2,fun i hi'=> ?_,fun i hi'=> ?_,by rw[Pq];exact h.nd,by rw[xA];exact h.nf,h.few.1,by unfold kK;rw[List.length_map];exact h.few.2⟩
 ·unfold kK at hi';obtain⟨j,hj,rfl⟩:=List.mem_map.1 hi';by_cases hid:j.id=id
  ·rw[if_pos hid];have:=yK h.nd hj hi hid;rw[this];exact hc
  ·rw[if_neg hid];refine(h.cur j hj).mod hm (fun hh=>hid ?_);have hcb:j.cb=cb:=(hS _ hh).elim (fun k=>k) (fun k=>absurd (by unfold bR;simp only[List.mem_cons];exact .inr (.inr (List.mem_map_of_mem hj))) k);have hn:(its.map It.cb).Nodup:=hnf.2.2;exact congrArg It.id (Qr hn hj hi hcb)
 ·have:i.id∈its.map It.id:=by rw[←Pq (id:=id) (c:=c')];exact List.mem_map_of_mem hi'
  obtain⟨j,hj,hji⟩:=List.mem_map.1 this;rw[←hji];exact h.ids j hj
end
def tQ (W0:World)(E:Nat→Addr)(H:Nat→Nat)(Kk M I b:Nat)(G0:List Nat)(w0:World)(C:fZ)(GC:List Nat)(mb gv:Nat)(a:Pool)(ids:List Nat)(its:List It)(id cb:Nat)(c:gP)(V:World)(it:Ei)(w':World):Prop:=
 ∃(c':gP) (cc:bq) (fO:List Nat),jW a.ents (jB a) c it c'∧Pg cc∧gB W0 E H Kk M I b G0 w0 C fO mb gv w' a ids (kK its id c')∧jL W0 E H Kk M C.cb fO w' a ids cc∧(∀q∈fO,q∈GC∨V.heap.size≤q)∧Mod (cb::GC) V w'
section
variable {W0 : World} {E : Nat → Addr} {H : Nat → Nat} {Kk M I b : Nat} {G0 : List Nat} {w0 w : World} {C : fZ} {GC : List Nat} {mb gv : Nat} {a : Pool} {ids : List Nat} {its : List It} {id cb : Nat} {c : gP}
theorem tQ.mod {T:List Nat}{V w1 w2:World}{it:Ei}(h:tQ W0 E H Kk M I b G0 w0 C GC mb gv a ids its id cb c V it w1)(hm:Mod T w1 w2)(hT:∀q∈T,q∉dW b C GC mb its∧w0.heap.size≤q∧q<V.heap.size):
  ∃(c':gP) (cc:bq) (fO:List Nat),jW a.ents (jB a) c it c'∧Pg cc∧gB W0 E H Kk M I b G0 w0 C fO mb gv w2 a ids (kK its id c')∧jL W0 E H Kk M C.cb fO w2 a ids cc∧(∀q∈fO,q∈GC∨V.heap.size≤q)∧Mod (cb::(GC++T)) V w2:=by
 obtain⟨c',cc,fO,h1,h2,h3,h4,h5,h6⟩:=h
 have h7:∀q∈T,q∉fO:=fun q hq hg=>by
  rcases h5 q hg with k|k
  ·exact(hT q hq).1 (aH.2 (.inr (.inr k)))
  ·have:=(hT q hq).2.2;omega
 refine⟨c',cc,fO,h1,h2,h3.BO hm (fun q hq=>⟨fun hg=> ?_,(hT q hq).2.1⟩),h4.mod hm (fun q hq=>⟨h7 q hq,Nat.le_trans h3.qH (hT q hq).2.1⟩),h5,(h6.more (fun q hq=>by simp at hq⊢;rcases hq with k|k;exact .inl k;exact .inr (.inl k))).then (hm.more (fun q hq=>by simp;exact .inr (.inr hq)))⟩;rcases aH.1 hg with k|k|k
 ·exact(hT q hq).1 (aH.2 (.inl k))
 ·rw[xA]at k;exact(hT q hq).1 (aH.2 (.inr (.inl k)))
 ·exact h7 q hq k
theorem tQ.of {S:List Nat}{V V1 V2:World}{c':gP}{cc:bq}{fO:List Nat}{it:Ei}(h3:gB W0 E H Kk M I b G0 w0 C fO mb gv V1 a ids its)(h4:jL W0 E H Kk M C.cb fO V1 a ids cc)(h5:∀q∈fO,q∈GC∨V.heap.size≤q)(h6:Mod GC V V1)(hi:⟨id,cb,c⟩∈its)(h1:jW a.ents (jB a) c it c')(h2:Pg cc)(hc:fB V2 cb c')(hm:Mod S V1 V2)(hS:∀q∈S,q=cb∨(q∉dW b C fO mb its∧w0.heap.size≤q∧V.heap.size≤q)):tQ W0 E H Kk M I b G0 w0 C GC mb gv a ids its id cb c V it V2:=by
 have hcb:cb∈bR C.ib mb its:=by
  unfold bR;simp only[List.mem_cons,List.mem_map];exact .inr (.inr ⟨_,hi,rfl⟩)
 refine⟨c',cc,fO,h1,h2,h3.ZM (h3.nZ.setCur hi hc hm (fun q hq=>(hS q hq).elim .inl (fun k=> .inr (fun g=>k.1 (aH.2 (.inr (.inl g))))))) hm (fun q hq=>(hS q hq).elim (fun k=> .inl (k▸hcb)) (fun k=> .inr ⟨k.1,k.2.1⟩)) (fun q hq=>by rw[xA]at hq;exact .inl hq),h4.mod hm (fun q hq=> ?_),h5,h6.trans hm (fun q hq _=>List.mem_cons_of_mem _ hq) (fun q hq hl=> ?_)⟩
 ·rcases hS q hq with k|k
  ·rw[k];exact⟨h3.apart.2.2 _ hcb,h3.b0.2 _ hcb⟩
  ·exact⟨fun g=>k.1 (aH.2 (.inr (.inr g))),Nat.le_trans h3.qH k.2.1⟩
 ·rcases hS q hq with k|k
  ·rw[k];simp
  ·omega
theorem gB.ade (h:gB W0 E H Kk M I b G0 w0 C GC mb gv w a ids its):∀e∈a.ents,e.hash<18446744073709551616∧e.key<18446744073709551616:=fun e he=>by
 obtain⟨i,N,h1,h2⟩:=lX.1 he;have h3:=((h.core.facts.2.2.2.2.2.1 i N h1).hash e h2).1;exact⟨h3.h64,h3.k64⟩
end
theorem abH {W0:World}{E:Nat→Addr}{H:Nat→Nat}{Kk M I b:Nat}{G0:List Nat}{w0 w:World}{C:fZ}{GC:List Nat}{mb gv:Nat}{a:Pool}{ids:List Nat}{its:List It}{id cb:Nat}{c:gP}(hS:gB W0 E H Kk M I b G0 w0 C GC mb gv w a ids its)(hi:⟨id,cb,c⟩∈its)(hd:c.done=false)(hok:c.ok):Calls Tryz.prog 92 #[pQ b,pQ cb] w fun y w'=>∃it,y= .returned (.tuple #[zu it,.nilIface])∧tQ W0 E H Kk M I b G0 w0 C GC mb gv a ids its id cb c w it w':=by
 have hst:=hS;have hB:=(Below.refl w.heap.size w).alloc (Nat.le_refl _) (.cells #[.int .i64 0,.int .u64 0,.int .u64 0] 120);have hR:=aj.new w 120 #[.int .i64 0,.int .u64 0,.int .u64 0];obtain⟨W,hW⟩:∃W,W=w.alloc (.cells #[.int .i64 0,.int .u64 0,.int .u64 0] 120):=⟨_,rfl⟩;rw[←hW]at hB hR;have Rv:=(hS.nZ.cur _ hi).mod (Mod.of_below hB []) (by simp);have HS:=qd (hS.below hB);have HR:=qd hR;have HB:=qd hB;have HW:=qd hW;have HI:=qd hi;have HCu:=qd Rv;have bQ:=qd hS.ade;have HD:=qd hd;have Fb:=qd hok;have HNf:=qd (show w.heap.size∉dW b C GC mb its from fun hg=>by have:=(hS.gI _ hg).1;omega);have HW0:=qd (show w0.heap.size≤w.heap.size from hS.mod.size);have HN0:=qd (show w.heap.size∉GC from fun hg=>by have:=(hS.gI _ (aH.2 (.inr (.inr hg)))).1;omega);have RB:=qd (show w.heap.size≠cb from fun e=>by have:cb<w.heap.size:=(hS.nZ.cur _ hi).lt;omega);clear hst hB hR hW hS Rv hi hd hok;go_in;go_upto_region 1 with fail;rw[←HW.out];go_wp2_with fail;refine(WS HCu.out).mono ?_;rintro y W1 ⟨rfl,hb⟩;replace HS:=qd (HS.out.below hb);replace HR:=qB hb HR;replace HB:=qd (bP hb HB.out);clear hb HCu;have hbk:=HS.out.blk.blk;unfold fZ.cells at hbk;have c3:=hbk.cell 3;simp only[gl]at c3;have hle:=WR HS.out.core c.key c.hash Fb.out.1;unfold bg at hle;have qh:=qd hle;clear hbk hle;go_wp2_with fail;refine qh.out.mono ?_;rintro y W2 ⟨o,hg,cc,fO,rfl,Xl,hcc,hct,hsu,hmo⟩;have hs2:=HS.out.aaJ hct.at_ hsu hmo
 have HRn:=qd (show w.heap.size∉fO from fun hg=>(hsu _ hg).elim HN0.out (fun k=>by have:=HR.out.lt;omega));have HQ:=qd (show Mod GC w W2 from(Mod.of_below HB.out GC).then hmo);replace HR:=qd (HR.out.mod hmo HN0.out);replace HS:=qd hs2;have uy:=qd hct;have zw:=qd Xl;have HCc:=qd hcc;have Ee:=qd (show∀q∈fO,q∈GC∨w.heap.size≤q from fun q hq=>(hsu q hq).elim .inl (fun k=> .inr (by have:=HB.out.size;omega)));have HCb:=qd (show cb<W2.heap.size from(hs2.nZ.cur _ HI.out).lt);clear hs2 hct Xl hcc hsu hmo qh c3;obtain⟨e0,he0⟩:∃e0:av,e0=o.getD ⟨0,0,0⟩:=⟨_,rfl⟩;rw[←he0];have O4:=qd he0;clear he0;unfold aP;go_upto_region 3 with fail;refine dF 166 #[nU e0.key,nU e0.val,nU e0.hash] ?_;rintro W3 ⟨hX,hb⟩;replace HS:=qd (HS.out.below hb);replace uy:=qd (uy.out.below hb);replace HR:=qB hb HR;replace HQ:=qd (HQ.out.then (Mod.of_below hb GC));have HX:=qd hX;obtain⟨xb,hxb⟩:∃xb,xb=W2.heap.size:=⟨_,rfl⟩;rw[←hxb]at HX⊢
 have hxr:xb≠cb:=fun e=>by have:=HCb.out;omega
 have HXc:=qd hxr;clear hX hb hxb hxr
 have HRf:=qd (show w.heap.size∉dW b C fO mb its from fun hg=>by
  rcases aH.1 hg with k|k|k
  ·exact HNf.out (aH.2 (.inl k))
  ·exact HNf.out (aH.2 (.inr (.inl k)))
  ·exact HRn.out k)
 have hxc:xb∉[cb]:=fun hh=>HXc.out (List.mem_singleton.1 hh);have hrc:w.heap.size∉[cb]:=fun hh=>RB.out (List.mem_singleton.1 hh);have HXm:=qd hxc;have QT:=qd hrc;clear hxc hrc
 cases o with
 |some m=>
  obtain rfl:e0=m:=O4.out;have hmm:=zw.out.2.2.2.2.1;have JL:=qd (bQ.out e0 (pz.1 hmm).1);have fK:=qd zw.out.2.2.2.2.2.1;have wQ:=qd (fun V (hV:fB V cb c)=>Qm hV HD.out e0 JL.out.2 JL.out.1 fK.out);unfold aP at wQ;have j4:=qd (jW.yield HD.out hg e0 zw.out.1 zw.out.2.2.1 zw.out.2.1 zw.out.2.2.2.1 zw.out.2.2.2.2);clear hmm;go_upto_region 4 with fail;have RD:=HX.out.cell 0;have RF:=HX.out.cell 1;have RG:=HX.out.cell 2;simp only[gl]at RD RF RG;refine rT (fun(w':World)=>w'.cell? ⟨xb,0,none⟩=some (nU e0.key)∧w'.cell? ⟨xb,1,none⟩=some (nU e0.val)∧w'.cell? ⟨xb,2,none⟩=some (nU e0.hash)) [8] ?_;have hHeld:=(⟨RD,RF,RG⟩:_∧_∧_);refine vW 0 rfl ?_;refine vT 1 rfl ?_;refine vW 2 rfl ?_;refine vT 3 rfl ?_;refine vW 4 rfl ?_;refine vW 5 rfl ?_;refine vT 6 rfl ?_;refine nT 7 rfl fun K hK=> ?_;go_simp;refine(wQ.out _ ((HS.out.nZ.cur _ HI.out).mod (Mod.of_below (Below.refl W3.heap.size W3).drew []) (by simp))).mono ?_;rintro y W4 ⟨rfl,hc4,ku⟩;replace ku:Mod [cb] W3 W4:=(Mod.of_below (Below.refl W3.heap.size W3).drew [cb]).then ku;replace HR:=qd (HR.out.mod ku QT.out);have iG:=qd hc4;have EP:=qd ku;replace HX:=qd (HX.out.mod ku HXm.out);clear hc4 ku wQ RD RF RG;have RD:=HX.out.cell 0;have RF:=HX.out.cell 1;have RG:=HX.out.cell 2;simp only[gl]at RD RF RG;go_wp2_with fail;have hHeld:=(⟨RD,RF,RG⟩:_∧_∧_);refine kO hK ?_;clear hK K;refine nT 8 rfl fun K hK=> ?_;have r:=HR.out.c3;obtain⟨f0,f1,f2⟩:=HR.out.f3;have hnw:=((HR.out.ak 0 (.int .i64 1)).ak 1 (nU e0.key)).ak 2 (nU e0.val)
  have iR:=(((Mod.refl [w.heap.size] W4).ak (b:=w.heap.size) (.inl (by simp)) 0 (.int .i64 1)).ak (b:=w.heap.size) (.inl (by simp)) 1 (nU e0.key)).ak (b:=w.heap.size) (.inl (by simp)) 2 (nU e0.val);simp only[pt]at hnw;have hmt:Mod [cb,w.heap.size] W3 ((((W4).setCell ⟨w.heap.size,0,none⟩ (.int .i64 1)).setCell ⟨w.heap.size,1,none⟩ (nU e0.key)).setCell ⟨w.heap.size,2,none⟩ (nU e0.val)):=EP.out.trans iR (fun q hq _=>by simp at hq⊢;exact .inl hq) (fun q hq _=>by simp at hq⊢;exact .inr hq)
  have HF:=qd (tQ.of (V:=w) HS.out uy.out Ee.out HQ.out HI.out j4.out HCc.out (iG.out.mod iR (fun hh=>RB.out (List.mem_singleton.1 hh).symm)) hmt (fun q hq=>by
   rcases List.mem_cons.1 hq with k|k
   ·exact .inl k
   ·rw[List.mem_singleton.1 k];exact .inr ⟨HRf.out,HW0.out,Nat.le_refl _⟩))
  have jR:=qd hnw;clear hnw iR hmt;go_simp;refine kO hK ?_;clear hK K;refine vL 9 rfl ?_;refine aR (by kernel_rfl) ?_ _;go_wp2;refine bodyPost_ret (v:= .tuple #[.agg #[.int .i64 1,nU e0.key,nU e0.val],.nilIface]) (by simp[results,Tryz.results92,go_sem,r.1,r.2.1,r.2.2]) rfl ⟨⟨1,e0.key,e0.val⟩,rfl,HF.out⟩
 |none=>
  have wQ:=qd (Qn (HS.out.nZ.cur _ HI.out) HD.out hg zw.out.2.1 zw.out.1);have j4:=qd (jW.skip HD.out hg zw.out.1 zw.out.2.2.1 zw.out.2.1 zw.out.2.2.2.1 zw.out.2.2.2.2);go_wp2_with fail;refine wQ.out.mono ?_;rintro y W4 ⟨rfl,hc4,ku⟩;replace HR:=qd (HR.out.mod ku QT.out);have iG:=qd hc4;have EP:=qd ku;have HDn:=qd (FH hc4);clear hc4 ku wQ;by_cases hmx:hg<18446744073709551615
  ·have hdn:(behind hg 18446744073709551615).done=false:=by unfold behind;rw[if_neg (by omega),if_pos hmx]
   rw[hdn]at HDn;rw[if_pos hmx]at j4;clear hdn;go_wp2_with fail;refine HDn.out.mono ?_;rintro y W5 ⟨rfl,rfl⟩;clear HDn;have r:=HR.out.c3;obtain⟨f0,f1,f2⟩:=HR.out.f3;have hnw:=((HR.out.ak 0 (.int .i64 2)).ak 1 (.int .u64 0)).ak 2 (.int .u64 0);have iR:=(((Mod.refl [w.heap.size] W4).ak (b:=w.heap.size) (.inl (by simp)) 0 (.int .i64 2)).ak (b:=w.heap.size) (.inl (by simp)) 1 (.int .u64 0)).ak (b:=w.heap.size) (.inl (by simp)) 2 (.int .u64 0);simp only[pt]at hnw;have hmt:Mod [cb,w.heap.size] W3 ((((W4).setCell ⟨w.heap.size,0,none⟩ (.int .i64 2)).setCell ⟨w.heap.size,1,none⟩ (.int .u64 0)).setCell ⟨w.heap.size,2,none⟩ (.int .u64 0)):=EP.out.trans iR (fun q hq _=>by simp at hq⊢;exact .inl hq) (fun q hq _=>by simp at hq⊢;exact .inr hq)
   have HF:=qd (tQ.of (V:=w) HS.out uy.out Ee.out HQ.out HI.out j4.out HCc.out (iG.out.mod iR (fun hh=>RB.out (List.mem_singleton.1 hh).symm)) hmt (fun q hq=>by
    rcases List.mem_cons.1 hq with k|k
    ·exact .inl k
    ·rw[List.mem_singleton.1 k];exact .inr ⟨HRf.out,HW0.out,Nat.le_refl _⟩))
   have jR:=qd hnw;clear hnw iR hmt;go_wp2;refine bodyPost_ret (v:= .tuple #[.agg #[.int .i64 2,.int .u64 0,.int .u64 0],.nilIface]) (by simp[results,Tryz.results92,go_sem,r.1,r.2.1,r.2.2]) rfl ⟨⟨2,0,0⟩,rfl,HF.out⟩
  ·have hdn:(behind hg 18446744073709551615).done=true:=by unfold behind;rw[if_neg (by omega),if_neg hmx]
   rw[hdn]at HDn;rw[if_neg hmx]at j4;clear hdn;go_wp2_with fail;refine HDn.out.mono ?_;rintro y W5 ⟨rfl,rfl⟩;clear HDn;have r:=HR.out.c3;obtain⟨f0,f1,f2⟩:=HR.out.f3;have hnw:=((HR.out.ak 0 (.int .i64 3)).ak 1 (.int .u64 0)).ak 2 (.int .u64 0);have iR:=(((Mod.refl [w.heap.size] W4).ak (b:=w.heap.size) (.inl (by simp)) 0 (.int .i64 3)).ak (b:=w.heap.size) (.inl (by simp)) 1 (.int .u64 0)).ak (b:=w.heap.size) (.inl (by simp)) 2 (.int .u64 0);simp only[pt]at hnw;have hmt:Mod [cb,w.heap.size] W3 ((((W4).setCell ⟨w.heap.size,0,none⟩ (.int .i64 3)).setCell ⟨w.heap.size,1,none⟩ (.int .u64 0)).setCell ⟨w.heap.size,2,none⟩ (.int .u64 0)):=EP.out.trans iR (fun q hq _=>by simp at hq⊢;exact .inl hq) (fun q hq _=>by simp at hq⊢;exact .inr hq)
   have HF:=qd (tQ.of (V:=w) HS.out uy.out Ee.out HQ.out HI.out j4.out HCc.out (iG.out.mod iR (fun hh=>RB.out (List.mem_singleton.1 hh).symm)) hmt (fun q hq=>by
    rcases List.mem_cons.1 hq with k|k
    ·exact .inl k
    ·rw[List.mem_singleton.1 k];exact .inr ⟨HRf.out,HW0.out,Nat.le_refl _⟩))
   have jR:=qd hnw;clear hnw iR hmt;go_wp2;refine bodyPost_ret (v:= .tuple #[.agg #[.int .i64 3,.int .u64 0,.int .u64 0],.nilIface]) (by simp[results,Tryz.results92,go_sem,r.1,r.2.1,r.2.2]) rfl ⟨⟨3,0,0⟩,rfl,HF.out⟩
end
theorem Z6 (d:Nat)(fn:Fn)(a b:Array Value)(w:World):(Op.equalIn (d+1) 177 (.func fn a b) .nilFunc).run Tryz.prog w= .ok false w:=by simp[Op.equalIn,run_underlying Tryz.underlying177]
theorem adf (fn:Fn)(a b:Array Value)(w:World):(Op.equal 177 (.func fn a b) .nilFunc).run Tryz.prog w= .ok false w:=Z6 9999 fn a b w
theorem abI (d:Nat)(x:TypeId)(v:Value)(w:World):(Op.equalIn (d+1) 28 .nilIface (.iface x v)).run Tryz.prog w= .ok false w:=by simp[Op.equalIn,run_underlying Tryz.underlying28]
theorem adO (x:TypeId)(v:Value)(w:World):(Op.equal 28 .nilIface (.iface x v)).run Tryz.prog w= .ok false w:=abI 9999 x v w
theorem adg (a:Addr)(w:World):Calls Tryz.prog 32 #[.nilIface,.iface 351 (.pointer (some a))] w fun e w'=>e= .returned (.bool false)∧w=w':=by
 have hq:∀W:World,(binOp .eql 28 .nilIface (.iface 351 (.pointer (some a)))).run Tryz.prog W= .ok (.bool false) W:=fun W=>by
  simp only[binOp];simp[adO]
 go_in;go_wp2;go_ret;exact⟨rfl,rfl⟩
theorem abJ {S:List Nat}{K:Ei→World→Prop}(G:FuncId)(cap:Array Value){V:World}{fb ob eb:Nat}(hG:∀W:World,(callFunc G cap).run Tryz.prog W= .ok (.enter G cap) W)(hF:aj V fb 177 #[.func (.func G) #[] cap])(hO:aj V ob 120 #[.int .i64 0,.int .u64 0,.int .u64 0])(hE:aj V eb 28 #[.nilIface])(hN:ob∉S∧eb∉S)(hoe:ob≠eb)
  (hc:Calls Tryz.prog G cap V fun y w1=>∃it,y= .returned (.tuple #[zu it,.nilIface])∧Mod S V w1∧K it w1):
  Calls Tryz.prog 127 #[pQ fb,pQ ob,pQ eb] V fun y w'=>y= .returned undef∧∃it w1,K it w1∧Mod S V w1∧Mod [ob] w1 w'∧aj w' ob 120 #[nI it.st,nU it.key,nU it.val]∧aj w' eb 28 #[.nilIface]:=by
 have HO:=qd hO;have HE:=qd hE;have HN:=qd hN;have HC:=qd hc;have x0:=hF.cell 0;simp only[List.getElem?_toArray,List.getElem?_cons_zero]at x0;have hgg:=hG;have HOE:=qd hoe;clear hF hO hE hN hc hoe;go_in;go_wp2_with fail;refine HC.out.mono ?_;rintro y w1 ⟨it,rfl,hm,hk⟩;have yQ:=HO.out.mod hm HN.out.1;have hE1:=HE.out.mod hm HN.out.2;have o0:=yQ.cell 0;have o1:=yQ.cell 1;have o2:=yQ.cell 2;have e0:=hE1.cell 0;simp only[gl]at o0 o1 o2 e0;obtain⟨of0,of1,of2⟩:=yQ.f3;have ef0:=hE1.frozen 0;have hid:=hE1.AZ (i:=0) (u:= .nilIface) rfl;have hn:=((yQ.ak 0 (nI it.st)).ak 1 (nU it.key)).ak 2 (nU it.val);have hm2:=(((Mod.refl [ob] w1).sl 0 (nI it.st)).sl 1 (nU it.key)).sl 2 (nU it.val);simp only[pt]at hn;have hE2:=hE1.mod hm2 (fun hh=>HOE.out (List.mem_singleton.1 hh).symm);have adh:=hE2.AZ (i:=0) (u:= .nilIface) rfl;have HF:=qd (show∃it w2,K it w2∧Mod S V w2∧Mod [ob] w2 _∧aj _ ob 120 #[nI it.st,nU it.key,nU it.val]∧aj _ eb 28 #[.nilIface]from⟨it,w1,hk,hm,hm2,hn,hE2⟩);have hne1:=HOE.out;have hne2:eb≠ob:=fun e=>hne1 e.symm;clear e0 ef0;have e0:=hE1.cell 0;simp only[gl]at e0;have ef0:=hE1.frozen 0;have HI:=qd adh;clear hm hk yQ hE1 hid hn hm2 hE2 adh;unfold zu;go_wp2;go_end0;rw[HI.out];exact⟨rfl,HF.out⟩
theorem Z7 {S:List Nat}{K:World→Ei→World→Prop}(G:FuncId)(cap:Array Value)(w:World)(hG:∀W:World,(callFunc G cap).run Tryz.prog W= .ok (.enter G cap) W)(hS:∀q∈S,q<w.heap.size)
  (hc:∀V,Below w.heap.size w V→w.heap.size+5≤V.heap.size→Calls Tryz.prog G cap V fun y w1=>∃it,y= .returned (.tuple #[zu it,.nilIface])∧Mod S V w1∧K V it w1):
  Calls Tryz.prog 90 #[.func (.func G) #[] cap] w fun y w'=>∃V it w1 T,y= .returned (.tuple #[zu it,.nilIface])∧Below w.heap.size w V∧Mod S V w1∧K V it w1∧Mod T w1 w'∧∀q∈T,w.heap.size≤q∧q<V.heap.size:=by
 obtain⟨W,hW,hB,hBf,hBr,hBo,BZ,Ef⟩:=qX5 w 177 #[.func (.func G) #[] cap] 120 #[.int .i64 0,.int .u64 0,.int .u64 0] 120 #[.int .i64 0,.int .u64 0,.int .u64 0] 120 #[.int .i64 0,.int .u64 0,.int .u64 0] 28 #[.nilIface];have hsz:=hB.size;have HW:=qd hW;have HB:=qd hB;have hWl:=Ef.lt;have RH:=qd hBf;have HBr:=qd hBr;have O7:=qd hBo;have p9:=qd Ef;have HS:=qd hS;have HC:=qd hc;clear hW hB hBf hBr hBo BZ Ef hS hc;have oz:∀(fn:Fn) (first cap:Array Value) (w:World),(Instr.makeFunc fn first cap).run Tryz.prog w= .ok (.func fn first cap) w:=fun _ _ _ _=>rfl
 have hq:∀W:World,(binOp .eql 177 (.func (.func G) #[] cap) .nilFunc).run Tryz.prog W= .ok (.bool false) W:=fun W=>by
  simp only[binOp];simp[adf]
 have pF:=(Below.refl W.heap.size W).alloc (Nat.le_refl _) (.cells #[.nilIface] 28);have rU:Below w.heap.size w (W.alloc (.cells #[.nilIface] 28)):=bP pF HB.out
 have hlV:w.heap.size+5≤(W.alloc (.cells #[.nilIface] 28)).heap.size:=by simp;omega
 have HNS:=qd (show∀q,w.heap.size≤q→q∉S from fun q hq hs=>by have:=HS.out q hs;omega)
 have uy:=qd (BL (S:=(w.heap.size+1+1)::S) (K:=fun w'=>∃it w1,K (W.alloc (.cells #[.nilIface] 28)) it w1∧Mod S (W.alloc (.cells #[.nilIface] 28)) w1∧Mod [(w.heap.size+1+1)] w1 w'∧aj w' (w.heap.size+1+1) 120 #[nI it.st,nU it.key,nU it.val]∧aj w' (w.heap.size+1+1+1+1) 28 #[.nilIface]) 127 #[pQ w.heap.size,.pointer (some ⟨(w.heap.size+1+1),0,none⟩),.pointer (some ⟨(w.heap.size+1+1+1+1),0,none⟩)] W (fun V=>enters_of Tryz.func127 (by kernel_rfl) rfl _ V)
  (fun hg=>by
   rcases List.mem_cons.1 hg with k|k
   ·omega
   ·exact HNS.out _ (by omega) k)
  ((abJ G cap hG (RH.out.mod (Mod.of_below pF []) (by simp)) (O7.out.mod (Mod.of_below pF []) (by simp)) (p9.out.mod (Mod.of_below pF []) (by simp)) ⟨HNS.out _ (by omega),HNS.out _ (by omega)⟩ (by omega) (HC.out _ rU hlV)).mono (fun y w1 hh=>⟨hh.1,(by
   obtain⟨it,w2,k1,k2,k3,_,_⟩:=hh.2
   exact k2.trans k3 (fun q hq _=>List.mem_cons_of_mem _ hq) (fun q hq _=>by rw[List.mem_singleton.1 hq];simp)),hh.2⟩)))
 have HV:=qd (And.intro rU hlV);have Pk:=qd pF;have x0:=RH.out.cell 0;simp only[List.getElem?_toArray,List.getElem?_cons_zero]at x0;clear pF rU hlV;go_in;go_upto_region 3 with fail;rw[←HW.out];go_wp2_with fail;refine uy.out.mono ?_;rintro y w1 ⟨rfl,hm1,it,w2,hk,hm2,gZ,ho,he⟩
 have hr1:=(HBr.out.mod (Mod.of_below Pk.out []) (by simp)).mod hm1 (fun hg=>by
  rcases List.mem_cons.1 hg with k|k
  ·omega
  ·exact HNS.out _ (by omega) k)
 have r0:=hr1.cell 0;have r1:=hr1.cell 1;have r2:=hr1.cell 2;have o0:=ho.cell 0;have o1:=ho.cell 1;have o2:=ho.cell 2;have e0:=he.cell 0;simp only[gl]at r0 r1 r2 o0 o1 o2 e0;obtain⟨f0,f1,f2⟩:=hr1.f3;have iR:=(((Mod.refl [(w.heap.size+1)] w1).sl 0 (nI it.st)).sl 1 (nU it.key)).sl 2 (nU it.val);have hmt:=gZ.trans iR (U:=[(w.heap.size+1),(w.heap.size+1+1)]) (fun q hq _=>by simp at hq⊢;exact .inr hq) (fun q hq _=>by simp at hq⊢;exact .inl hq)
 have HF:=qd (show∃V Lx w1 T,(Ending.returned (.tuple #[.agg #[nI it.st,nU it.key,nU it.val],.nilIface]))= .returned (.tuple #[zu Lx,.nilIface])∧Below w.heap.size w V∧Mod S V w1∧K V Lx w1∧Mod T w1 _∧∀q∈T,w.heap.size≤q∧q<V.heap.size from⟨_,it,w2,_,rfl,HV.out.1,hm2,hk,hmt,fun q hq=>by
  have:=HV.out.2;simp at hq
  rcases hq with k|k<;>omega⟩)
 clear hm1 hk hm2 gZ ho he hr1 iR hmt uy;go_wp2;refine bodyPost_ret (v:= .tuple #[.agg #[nI it.st,nU it.key,nU it.val],.nilIface]) (by simp[results,Tryz.results90,go_sem,r0,r1,r2]) rfl HF.out
end Go.Proofs.YtnfjjbpmhcbelaaGreatDoor
