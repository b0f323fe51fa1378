/- A map as one thing: its block, its core, its iterators. No statement of the claim. -/
import Derived.Test.YthfgacnlojmmfaaGreatDoorRmC
import Derived.Test.YthfgacnlojmmfaaGreatDoorCoN
import Derived.Test.YthfgacnlojmmfaaGreatDoorLaneP
import Derived.Test.YthfgacnlojmmfaaGreatDoorRmI
import Derived.Maps.RangeWalk
import Derived.Test.YthfgacnlojmmfaaGreatDoorCoCS
namespace Go.Proofs.YthfgacnlojmmfaaGreatDoor
set_option maxRecDepth 100000
set_option maxHeartbeats 4000000
open Go.RowKit AmC Go.MapKept
open Go.ChangeMaps (setBlock heap_setBlock_same heap_setBlock_other)
section
variable {GC' S : List Nat}
def rtFoot (b:Nat)(C:RmC)(GC:List Nat)(mb:Nat)(its:List It):List Nat:=b::(itFoot C.ib mb its++GC)
structure RtS (W0:World)(E:Nat→Addr)(H:Nat→Nat)(K M I b:Nat)(G0:List Nat)(w0:World)(C:RmC)(GC:List Nat)(mb gv:Nat)(w:World)(a:Pool)(ids:List Nat)(its:List It):Prop where
 blk:RmB w b C
 cfg:C.k=(K:Int)∧C.m=(M:Int)∧C.i=(I:Int)
 core:CoreAt W0 E H K M C.cb GC w a ids
 itr:ItAt w C.ib mb I gv its
 b0:W0.heap.size≤b∧∀q∈itFoot C.ib mb its,W0.heap.size≤q
 apart:b∉GC∧b∉itFoot C.ib mb its∧∀q∈itFoot C.ib mb its,q∉GC
 sub:∀q∈rtFoot b C GC mb its,q∈G0∨w0.heap.size≤q
 mod:Mod G0 w0 w
 le0:W0.heap.size≤w0.heap.size
theorem mem_rtFoot {b:Nat}{C:RmC}{GC:List Nat}{mb:Nat}{its:List It}{q:Nat}:q∈rtFoot b C GC mb its↔q=b∨q∈itFoot C.ib mb its∨q∈GC:=by unfold rtFoot;simp
section
variable {W0 : World} {E : Nat → Addr} {H : Nat → Nat} {K M I b : Nat} {G0 : List Nat} {w0 : World} {C C' : RmC} {GC : List Nat} {mb gv gv' : Nat} {w w' : World} {a a' : Pool} {ids ids' : List Nat} {its its' : List It}
theorem RtS.lts (h:RtS W0 E H K M I b G0 w0 C GC mb gv w a ids its):∀q∈rtFoot b C GC mb its,q<w.heap.size∧W0.heap.size≤q:=fun q hq=>by
 rcases mem_rtFoot.1 hq with rfl|hq|hq
 ·exact⟨h.blk.lt,h.b0.1⟩
 ·exact⟨h.itr.lts q hq,h.b0.2 q hq⟩
 ·exact h.core.facts.2.2.2.2.2.2.2.2.2.2.1 q hq
theorem RtS.kk (h:RtS W0 E H K M I b G0 w0 C GC mb gv w a ids its):1≤C.k∧C.k≤64:=by
 have:=h.core.facts.2.2.2.2.2.2.2.2.1;rw[h.cfg.1];omega
theorem RtS.mod_ (h:RtS W0 E H K M I b G0 w0 C GC mb gv w a ids its)(hm:Mod S w w')(hS:∀q∈S,q∉rtFoot b C GC mb its∧w0.heap.size≤q):RtS W0 E H K M I b G0 w0 C GC mb gv w' a ids its:=by
 have h1:∀q∈rtFoot b C GC mb its,q∉S:=fun q hq hs=>(hS q hs).1 hq;exact⟨h.blk.mod hm (h1 b (mem_rtFoot.2 (.inl rfl))),h.cfg,h.core.mod hm (fun q hq=>⟨fun hg=>(hS q hq).1 (mem_rtFoot.2 (.inr (.inr hg))),Nat.le_trans h.le0 (hS q hq).2⟩),h.itr.mod hm (fun q hq=>h1 q (mem_rtFoot.2 (.inr (.inl hq)))),h.b0,h.apart,h.sub,h.mod.trans hm (fun _ hk _=>hk) (fun k hk hl=>absurd (hS k hk).2 (by omega)),h.le0⟩
theorem RtS.below (h:RtS W0 E H K M I b G0 w0 C GC mb gv w a ids its)(hb:Below w.heap.size w w'):RtS W0 E H K M I b G0 w0 C GC mb gv w' a ids its:=h.mod_ (Mod.of_below hb []) (by simp)
theorem RtS.setB (h:RtS W0 E H K M I b G0 w0 C GC mb gv w a ids its)(hB:RmB w' b C')(hm:Mod [b] w w')(hk:C'.k=C.k∧C'.m=C.m∧C'.i=C.i∧C'.cb=C.cb∧C'.ib=C.ib):RtS W0 E H K M I b G0 w0 C' GC mb gv w' a ids its:=by
 obtain⟨k1,k2,k3,k4,k5⟩:=hk;refine⟨hB,by rw[k1,k2,k3];exact h.cfg,by rw[k4];exact h.core.mod hm (fun q hq=>by rw[List.mem_singleton.1 hq];exact⟨h.apart.1,h.b0.1⟩),by rw[k5];exact h.itr.mod hm (fun q hq hs=>h.apart.2.1 (List.mem_singleton.1 hs▸hq)),by rw[k5];exact h.b0,by rw[k5];exact h.apart,fun q hq=>h.sub q (by rw[mem_rtFoot]at hq⊢;rw[k5]at hq;exact hq),h.mod.trans hm (fun _ hk _=>hk) (fun k hk hl=> ?_),h.le0⟩;rcases h.sub b (mem_rtFoot.2 (.inl rfl))with h1|h1
 ·rw[List.mem_singleton.1 hk];exact h1
 ·rw[List.mem_singleton.1 hk]at hl;omega
theorem Mod.within (h:Mod G0 w0 w)(hm:Mod S w w')(hs:∀q∈S,q∈G0∨w0.heap.size≤q):Mod G0 w0 w':=h.trans hm (fun _ hk _=>hk) fun k hk hl=>(hs k hk).elim id fun h1=>absurd h1 (by omega)
theorem RtS.setC' (h:RtS W0 E H K M I b G0 w0 C GC mb gv w a ids its)(h1:CoreAt W0 E H K M C.cb GC' w' a' ids')(h2:∀q∈GC',q∈GC∨w.heap.size≤q)(h3:Mod GC w w'):RtS W0 E H K M I b G0 w0 C GC' mb gv w' a' ids' its:=by
 have hbl:=h.blk.lt;have hil:=h.itr.lts;refine⟨h.blk.mod h3 h.apart.1,h.cfg,h1,h.itr.mod h3 h.apart.2.2,h.b0,⟨fun hg=> ?_,h.apart.2.1,fun q hq hg=> ?_⟩,fun q hq=> ?_,h.mod.within h3 (fun q hq=>h.sub q (mem_rtFoot.2 (.inr (.inr hq)))),h.le0⟩
 ·rcases h2 b hg with k|k
  ·exact h.apart.1 k
  ·omega
 ·rcases h2 q hg with k|k
  ·exact h.apart.2.2 q hq k
  ·have:=hil q hq;omega
 ·rcases mem_rtFoot.1 hq with k|k|k
  ·exact h.sub q (mem_rtFoot.2 (.inl k))
  ·exact h.sub q (mem_rtFoot.2 (.inr (.inl k)))
  ·rcases h2 q k with k|k
   ·exact h.sub q (mem_rtFoot.2 (.inr (.inr k)))
   ·have:=h.mod.size;exact .inr (by omega)
theorem RtS.setC (h:RtS W0 E H K M I b G0 w0 C GC mb gv w a ids its)(hc:CoreTo W0 E H K M C.cb GC w w' a' ids'):∃GC',RtS W0 E H K M I b G0 w0 C GC' mb gv w' a' ids' its∧(∀q∈GC',q∈GC∨w.heap.size≤q)∧Mod GC w w':=by
 obtain⟨GC',h1,h2,h3⟩:=hc;exact⟨GC',h.setC' h1 h2 h3,h2,h3⟩
theorem RtS.setI (h:RtS W0 E H K M I b G0 w0 C GC mb gv w a ids its)(hi:ItAt w' C.ib mb I gv' its')(hm:Mod S w w')(hS:∀q∈S,q∈itFoot C.ib mb its∨(q∉rtFoot b C GC mb its∧w0.heap.size≤q))(hn:∀q∈itFoot C.ib mb its',q∈itFoot C.ib mb its∨w.heap.size≤q):RtS W0 E H K M I b G0 w0 C GC mb gv' w' a ids its':=by
 have hbl:=h.blk.lt;have hcl:=h.core.facts.2.2.2.2.2.2.2.2.2.2.1;have hen:=h.core.facts.2.2.2.2.2.2.2.2.2.2.2.size;refine⟨h.blk.mod hm (fun hs=> ?_),h.cfg,h.core.mod hm (fun q hq=> ?_),hi,⟨h.b0.1,fun q hq=> ?_⟩,⟨h.apart.1,fun hq=> ?_,fun q hq hg=> ?_⟩,fun q hq=> ?_,h.mod.within hm (fun q hq=> ?_),h.le0⟩
 ·rcases hS b hs with k|k
  ·exact h.apart.2.1 k
  ·exact k.1 (mem_rtFoot.2 (.inl rfl))
 ·rcases hS q hq with k|k
  ·exact⟨h.apart.2.2 q k,h.b0.2 q k⟩
  ·exact⟨fun hg=>k.1 (mem_rtFoot.2 (.inr (.inr hg))),Nat.le_trans h.le0 k.2⟩
 ·rcases hn q hq with k|k
  ·exact h.b0.2 q k
  ·omega
 ·rcases hn b hq with k|k
  ·exact h.apart.2.1 k
  ·omega
 ·rcases hn q hq with k|k
  ·exact h.apart.2.2 q k hg
  ·have:=(hcl q hg).1;omega
 ·rcases mem_rtFoot.1 hq with k|k|k
  ·exact h.sub q (mem_rtFoot.2 (.inl k))
  ·rcases hn q k with k|k
   ·exact h.sub q (mem_rtFoot.2 (.inr (.inl k)))
   ·have:=h.mod.size;exact .inr (by omega)
  ·exact h.sub q (mem_rtFoot.2 (.inr (.inr k)))
 ·rcases hS q hq with k|k
  ·exact h.sub q (mem_rtFoot.2 (.inr (.inl k)))
  ·exact .inr k.2
theorem RtS.again (h:RtS W0 E H K M I b G0 w0 C GC mb gv w a ids its):RtS W0 E H K M I b (rtFoot b C GC mb its) w C GC mb gv w a ids its:=⟨h.blk,h.cfg,h.core,h.itr,h.b0,h.apart,fun q hq=> .inl hq,Mod.refl _ _,by have:=h.core.facts.2.2.2.2.2.2.2.2.2.2.2.size;exact this⟩
theorem RtS.chain {mb':Nat}(h:RtS W0 E H K M I b G0 w0 C GC mb gv w a ids its)(k:RtS W0 E H K M I b (rtFoot b C GC mb its) w C' GC' mb' gv' w' a' ids' its'):RtS W0 E H K M I b G0 w0 C' GC' mb' gv' w' a' ids' its':=
 ⟨k.blk,k.cfg,k.core,k.itr,k.b0,k.apart,fun q hq=>(k.sub q hq).elim (fun g=>h.sub q g) (fun g=> .inr (by have:=h.mod.size;omega)),h.mod.within k.mod h.sub,h.le0⟩
end
def RtAt (W0:World)(E:Nat→Addr)(H:Nat→Nat)(K M I b:Nat)(G:List Nat)(w:World)(a:Pool)(ids:List Nat)(its:List It)(gv:Nat)(lst:Cnt):Prop:=
 ∃(C:RmC) (GC:List Nat) (mb:Nat),RtS W0 E H K M I b (rtFoot b C GC mb its) w C GC mb gv w a ids its∧G=rtFoot b C GC mb its∧C.last=lst
def RtTo (W0:World)(E:Nat→Addr)(H:Nat→Nat)(K M I b:Nat)(G:List Nat)(w w':World)(a':Pool)(ids':List Nat)(its':List It)(gv':Nat)(lst':Cnt):Prop:=
 ∃G',RtAt W0 E H K M I b G' w' a' ids' its' gv' lst'∧(∀q∈G',q∈G∨w.heap.size≤q)∧Mod G w w'
section
variable {W0 : World} {E : Nat → Addr} {H : Nat → Nat} {K M I b : Nat} {G G0 : List Nat} {w0 w w' : World} {C : RmC} {GC : List Nat} {mb gv gv' : Nat} {a a' : Pool} {ids ids' : List Nat} {its its' : List It} {lst lst' : Cnt}
theorem RtS.to (h:RtS W0 E H K M I b G w C GC mb gv w' a' ids' its'):RtTo W0 E H K M I b G w w' a' ids' its' gv C.last:=⟨_,⟨C,GC,mb,h.again,rfl,rfl⟩,h.sub,h.mod⟩
theorem RtAt.mod (h:RtAt W0 E H K M I b G w a ids its gv lst)(hm:Mod S w w')(hS:∀q∈S,q∉G∧W0.heap.size≤q):RtAt W0 E H K M I b G w' a ids its gv lst:=by
 obtain⟨C,GC,mb,h1,rfl,h2⟩:=h;have k1:∀q∈rtFoot b C GC mb its,q∉S:=fun q hq hs=>(hS q hs).1 hq;have h3:RtS W0 E H K M I b (rtFoot b C GC mb its) w' C GC mb gv w' a ids its:=⟨h1.blk.mod hm (k1 b (mem_rtFoot.2 (.inl rfl))),h1.cfg,h1.core.mod hm (fun q hq=>⟨fun hg=>(hS q hq).1 (mem_rtFoot.2 (.inr (.inr hg))),(hS q hq).2⟩),h1.itr.mod hm (fun q hq=>k1 q (mem_rtFoot.2 (.inr (.inl hq)))),h1.b0,h1.apart,fun q hq=> .inl hq,Mod.refl _ _,by have:=h1.le0;have:=hm.size;omega⟩;exact⟨C,GC,mb,h3,rfl,h2⟩
theorem RtAt.below (h:RtAt W0 E H K M I b G w a ids its gv lst)(hb:Below w.heap.size w w'):RtAt W0 E H K M I b G w' a ids its gv lst:=h.mod (Mod.of_below hb []) (by simp)
theorem RtAt.facts (h:RtAt W0 E H K M I b G w a ids its gv lst):(∀q∈G,q<w.heap.size∧W0.heap.size≤q)∧(a.ents.map Ent.key).Nodup∧a.ents.length≤M∧M≤192∧a.Ns.length≤32∧1≤a.Ns.length∧(its.map It.id).Nodup∧its.length≤I∧I≤8∧Env W0 E w:=by
 obtain⟨C,GC,mb,h1,rfl,h2⟩:=h;obtain⟨_,_,f3,f4,_,_,f7,f8,_,f10,_,f12⟩:=h1.core.facts;exact⟨h1.lts,f10,f7,f8,f3,f4,h1.itr.nd,h1.itr.few.2,h1.itr.few.1,f12⟩
theorem RtTo.next (h:RtTo W0 E H K M I b G w w' a' ids' its' gv' lst'){w2:World}(hb:Below w'.heap.size w' w2):RtTo W0 E H K M I b G w w2 a' ids' its' gv' lst':=by
 obtain⟨G',h1,h2,h3⟩:=h;exact⟨G',h1.below hb,h2,h3.then (Mod.of_below hb _)⟩
theorem rt_Len (h:RtAt W0 E H K M I b G w a ids its gv lst):Calls Tryz.prog 31 #[.pointer (some ⟨b,0,none⟩)] w fun y w'=>y= .returned (.int .i64 (a.ents.length:Int))∧w=w':=by
 obtain⟨C,GC,mb,hS,rfl,hlst⟩:=h;have hbk:=hS.blk.blk;unfold RmC.cells at hbk;have c3:=hbk.cell 3;simp only[gl]at c3;have HL:=qd (at_Len hS.core);unfold coreP at HL;clear hbk hS hlst;go_in;go_wp2_with fail;refine HL.out.mono ?_;rintro y w1 ⟨rfl,rfl⟩;go_wp2;go_ret;exact⟨rfl,rfl⟩
theorem rt_Open (h:RtAt W0 E H K M I b G w a ids its gv lst)(hlt:its.length<I)(hg:gv≤100000):Calls Tryz.prog 30 #[.pointer (some ⟨b,0,none⟩)] w fun y w'=>∃cb,y= .returned (.tuple #[.int .i64 ((gv+1:Nat):Int),.nilIface])∧RtTo W0 E H K M I b G w w' a ids (its++[⟨gv+1,cb,⟨0,0,false⟩⟩]) (gv+1) lst:=by
 obtain⟨C,GC,mb,hS,rfl,hlst⟩:=h;have hbk:=hS.blk.blk;unfold RmC.cells at hbk;have c16:=hbk.cell 16;simp only[gl]at c16;have hop:=iters_Open hS.itr hlt hg;have HO:=qd hop;have HS:=qd hS;have HQ:=qd hlst;clear hbk hS hop hlst;go_in;go_wp2_with fail;refine HO.out.mono ?_;rintro y w1 ⟨cb,hcb,rfl,hi,hm⟩
 have hs:=HS.out.setI hi hm (fun q hq=> .inl (by unfold itFoot;simp at hq⊢;rcases hq with k|k;exact .inl k;exact .inr (.inl k))) (fun q hq=>by
  unfold itFoot at hq⊢;simp only[List.map_append,List.mem_cons,List.mem_append,List.map_cons,List.map_nil,List.not_mem_nil,or_false]at hq⊢;rcases hq with k|k|k|k
  ·exact .inl (.inl k)
  ·exact .inl (.inr (.inl k))
  ·exact .inl (.inr (.inr k))
  ·exact .inr (k▸hcb))
 have HE:=qd (show RtTo W0 E H K M I b (rtFoot b C GC mb its) w w1 a ids (its++[⟨gv+1,cb,⟨0,0,false⟩⟩]) (gv+1) lst from HQ.out▸hs.to);clear hs hi hm hcb HO;go_wp2;refine bodyPost_ret (v:= .tuple #[.int .i64 ((gv:Int)+1),.nilIface]) (by simp[results,Tryz.results30,go_sem]) rfl ⟨cb,rfl,HE.out⟩
end
def CloP (W0:World)(E:Nat→Addr)(H:Nat→Nat)(K M I b:Nat)(G0:List Nat)(w0:World)(C:RmC)(GC:List Nat)(mb gv:Nat)(its:List It)(R:Pool→List Nat→Prop)(pr:Nat)(t:TypeId)(v:Value)(V w':World):Prop:=
 ∃GC' a' ids',RtS W0 E H K M I b G0 w0 C GC' mb gv w' a' ids' its∧R a' ids'∧Blk w' pr t #[v]∧(∀q∈GC',q∈GC∨V.heap.size≤q)∧Mod (pr::GC) V w'
theorem errV_form (E:Nat→Addr)(k:Nat):errV E k= .nilIface∨∃A,errV E k= .iface 346 (.pointer (some A)):=by
 unfold errV;split
 ·exact .inl rfl
 ·exact .inr ⟨_,rfl⟩
theorem put_clo {W0:World}{E:Nat→Addr}{H:Nat→Nat}{Kk M I b:Nat}{G0:List Nat}{w0 V:World}{C:RmC}{GC:List Nat}{mb gv:Nat}{a:Pool}{ids:List Nat}{its:List It}{pm pk pv ph pr:Nat}{e:Ent}(hS:RtS W0 E H Kk M I b G0 w0 C GC mb gv V a ids its)(hm:Blk V pm 26 #[.pointer (some ⟨b,0,none⟩)])(hk:Blk V pk 33 #[.int .u64 (e.key:Int)])(hv:Blk V pv 33 #[.int .u64 (e.val:Int)])(hh:Blk V ph 33 #[.int .u64 (e.hash:Int)])(hr:Blk V pr 28 #[.nilIface])(hne:pr∉rtFoot b C GC mb its∧w0.heap.size≤pr)(he:EntOk H e):Calls Tryz.prog 40 #[.pointer (some ⟨pm,0,none⟩),.pointer (some ⟨pk,0,none⟩),.pointer (some ⟨pv,0,none⟩),.pointer (some ⟨ph,0,none⟩),.pointer (some ⟨pr,0,none⟩)] V fun y w'=>y= .returned undef∧CloP W0 E H Kk M I b G0 w0 C GC mb gv its (PutR H Kk M a ids e) pr 28 (errV E (putC M a.ents e.key)) V w':=by
 have hbk:=hS.blk.blk;unfold RmC.cells at hbk;have c3:=hbk.cell 3;simp only[gl]at c3;have xm:=hm.cell 0;have xk:=hk.cell 0;have xv:=hv.cell 0;have xh:=hh.cell 0;simp only[List.getElem?_toArray,List.getElem?_cons_zero]at xm xk xv xh;have HS:=qd hS;have HRs:=qd hr;have HNe:=qd hne;have HE:=qd he;have hdr:=(Below.refl V.heap.size V).drew;have hcl:=at_putW (hS.core.below hdr) e he;unfold coreP at hcl;obtain⟨ev,hev⟩:∃ev,ev=errV E (putC M a.ents e.key):=⟨_,rfl⟩;have hone:ev= .nilIface∨∃A,ev= .iface 346 (.pointer (some A)):=hev▸errV_form E _;rw[←hev]at hcl⊢;have HEv:=qd hone;clear hone;have HCl:=qd hcl;clear hcl hev hbk hS hr hne he hdr hm hk hv hh;go_in;refine rT (fun(w':World)=>w'.cell? ⟨pm,0,none⟩=some (.pointer (some ⟨b,0,none⟩))∧w'.cell? ⟨pk,0,none⟩=some (.int .u64 (e.key:Int))∧w'.cell? ⟨pv,0,none⟩=some (.int .u64 (e.val:Int))∧w'.cell? ⟨ph,0,none⟩=some (.int .u64 (e.hash:Int))∧w'.cell? ⟨b,3,none⟩=some (.pointer (some ⟨C.cb,0,none⟩))) [7,8] ?_;have hHeld:=(⟨xm,xk,xv,xh,c3⟩:_∧_∧_∧_∧_);refine vT 4 rfl ?_;refine vT 5 rfl ?_;refine vT 6 rfl ?_;refine nT 0 rfl fun K hK=> ?_;go_simp;refine kO hK ?_;clear hK K;refine vW 1 rfl ?_;refine vW 2 rfl ?_;refine vT 3 rfl ?_;refine nT 7 rfl fun K hK=> ?_;go_simp;refine HCl.out.mono ?_;rintro y V1 ⟨rfl,a',ids',hto,hpm⟩;obtain⟨GC',hS1,hsub,hmod⟩:=(HS.out.below (Below.refl V.heap.size V).drew).setC hto;have HS1:=qd hS1;have HPm:=qd hpm;have hmod2:Mod GC V V1:=(Mod.of_below (Below.refl V.heap.size V).drew GC).then hmod
 have HSu:=qd (show∀q∈GC',q∈GC∨V.heap.size≤q from hsub);have hpl:=HRs.out.lt;have hr1:=(HRs.out.mod hmod2 (fun hg=>HNe.out.1 (mem_rtFoot.2 (.inr (.inr hg)))));have HR1:=qd hr1;have HMo:=qd hmod2;have HPl:=qd hpl;clear hto hpm hS1 hsub hmod hmod2 hr1 hpl HCl;go_wp2_with fail;refine kO hK ?_;clear hK K;refine nT 8 rfl fun K hK=> ?_;have r0:=HR1.out.cell 0;simp only[List.getElem?_toArray,List.getElem?_cons_zero]at r0;have rf:=HR1.out.frozen 0;have hn2:=HR1.out.set_ 0 (ev);have hm2:=(Mod.refl [pr] V1).sl 0 (ev);simp only[List.setIfInBounds_toArray,List.set_cons_zero]at hn2
 have hfr:∀q∈[pr],q∉rtFoot b C GC' mb its∧w0.heap.size≤q:=fun q hq=>by
  rw[List.mem_singleton.1 hq];refine⟨fun hg=> ?_,HNe.out.2⟩;rcases mem_rtFoot.1 hg with k|k|k
  ·exact HNe.out.1 (mem_rtFoot.2 (.inl k))
  ·exact HNe.out.1 (mem_rtFoot.2 (.inr (.inl k)))
  ·rcases HSu.out pr k with k|k
   ·exact HNe.out.1 (mem_rtFoot.2 (.inr (.inr k)))
   ·have:=HPl.out;omega
 have HF:=qd (show CloP W0 E H Kk M I b G0 w0 C GC mb gv its (PutR H Kk M a ids e) pr 28 (ev) V (V1.setCell ⟨pr,0,none⟩ (ev))from⟨GC',a',ids',HS1.out.mod_ hm2 hfr,HPm.out,hn2,HSu.out,(HMo.out.more (fun q hq=>List.mem_cons_of_mem _ hq)).then (hm2.more (fun q hq=>by rw[List.mem_singleton.1 hq];simp))⟩);clear hn2 hm2 hfr;rcases HEv.out with hv|⟨A,hv⟩
 all_goals
  subst hv;go_simp;refine kO hK ?_;clear hK K;refine doneT (by kernel_rfl) ?_ _;go_wp2;go_end0;exact⟨rfl,HF.out⟩
end
section
section
variable {W0 : World} {E : Nat → Addr} {H : Nat → Nat} {Kk M I b : Nat} {G0 : List Nat} {w0 w w' : World} {C : RmC} {GC : List Nat} {mb gv : Nat} {a : Pool} {ids : List Nat} {its : List It}
theorem RtS.wrote (h:RtS W0 E H Kk M I b G0 w0 C GC mb gv w a ids its)(hw:Wrote w b C w'):∃C',RtS W0 E H Kk M I b G0 w0 C' GC mb gv w' a ids its∧Mod [b] w w'∧C'.cb=C.cb∧C'.ib=C.ib∧C'.lf≤C.lf:=by
 obtain⟨lf,gn,ma,ml,last,all,h1,h2,h3⟩:=hw;exact⟨_,h.setB h2 h3 ⟨rfl,rfl,rfl,rfl,rfl⟩,h3,rfl,rfl,h1⟩
end
theorem rt_Put {W0:World}{E:Nat→Addr}{H:Nat→Nat}{Kk M I b:Nat}{G:List Nat}{w:World}{a:Pool}{ids:List Nat}{its:List It}{gv:Nat}{lst:Cnt}(h:RtAt W0 E H Kk M I b G w a ids its gv lst)(e:Ent)(he:EntOk H e):Calls Tryz.prog 18 #[.pointer (some ⟨b,0,none⟩),.int .u64 (e.key:Int),.int .u64 (e.val:Int),.int .u64 (e.hash:Int)] w fun y w'=>y= .returned (errV E (putC M a.ents e.key))∧∃a' ids' lst',RtTo W0 E H Kk M I b G w w' a' ids' its gv lst'∧PutR H Kk M a ids e a' ids':=by
 obtain⟨C,GC,mb,hS,rfl,hlst⟩:=h;obtain⟨W,hW,hB,hBm,hBk,hBv,hBh,hBe⟩:=qX5 w 26 #[.pointer (some ⟨b,0,none⟩)] 33 #[.int .u64 (e.key:Int)] 33 #[.int .u64 (e.val:Int)] 33 #[.int .u64 (e.hash:Int)] 28 #[.nilIface];have hlt:=fun q hq=>(hS.lts q hq).1;have HNe:=qd (show∀q,w.heap.size≤q→q∉rtFoot b C GC mb its from fun q hq hg=>by have:=hlt q hg;omega);have HS:=qd (hS.below hB);have hsz:=hB.size;have HBm:=qd hBm;have HBk:=qd hBk;have HBv:=qd hBv;have HBh:=qd hBh;have HBe:=qd hBe;have hWl:=hBe.lt;have HW:=qd hW;have HE:=qd he;clear hW hB hS hlt hBm hBk hBv hBh hBe;have hmf:∀(fn:Fn) (first cap:Array Value) (w:World),(Instr.makeFunc fn first cap).run Tryz.prog w= .ok (.func fn first cap) w:=fun _ _ _ _=>rfl;have hBc:=(Below.refl W.heap.size W).alloc (Nat.le_refl _) (.cells #[.nilIface] 28)
 have HCt:=qd (trap_Catch (S:=(w.heap.size+1+1+1+1)::GC) (K:=fun w1=>CloP W0 E H Kk M I b (rtFoot b C GC mb its) w C GC mb gv its (PutR H Kk M a ids e) (w.heap.size+1+1+1+1) 28 (errV E (putC M a.ents e.key)) (W.alloc (.cells #[.nilIface] 28)) w1) 40 #[.pointer (some ⟨w.heap.size,0,none⟩),.pointer (some ⟨(w.heap.size+1),0,none⟩),.pointer (some ⟨(w.heap.size+1+1),0,none⟩),.pointer (some ⟨(w.heap.size+1+1+1),0,none⟩),.pointer (some ⟨(w.heap.size+1+1+1+1),0,none⟩)] W (fun V=>enters_of Tryz.func40 (by kernel_rfl) rfl _ V)
  (fun hg=>by
   rcases List.mem_cons.1 hg with k|k
   ·omega
   ·exact HNe.out _ (by omega) (mem_rtFoot.2 (.inr (.inr k))))
  ((put_clo (HS.out.below hBc) (HBm.out.mod (Mod.of_below hBc []) (by simp)) (HBk.out.mod (Mod.of_below hBc []) (by simp)) (HBv.out.mod (Mod.of_below hBc []) (by simp)) (HBh.out.mod (Mod.of_below hBc []) (by simp)) (HBe.out.mod (Mod.of_below hBc []) (by simp)) ⟨HNe.out _ (by omega),by omega⟩ HE.out).mono (fun y w1 hh=>⟨hh.1,(by obtain⟨_,_,_,_,_,_,_,q⟩:=hh.2;exact q),hh.2⟩)))
 have HBc:=qd hBc;clear hBc;go_in;go_upto_region 2 with fail;rw[←HW.out];go_wp2_with fail;refine HCt.out.mono ?_;rintro y w1 ⟨rfl,hm1,GC',a',ids',hS1,hpm,hr1,hsu,hm2⟩;have HS:=qd hS1;have HPm:=qd hpm;have HR:=qd hr1
 have hx1:=(HBm.out.mod (Mod.of_below HBc.out []) (by simp)).mod hm1 (fun hg=>by
  rcases List.mem_cons.1 hg with k|k
  ·omega
  ·exact HNe.out _ (Nat.le_refl _) (mem_rtFoot.2 (.inr (.inr k))))
 have HX:=qd hx1;have HNb:=qd (show(w.heap.size+1+1+1+1)∉[b]from fun hg=>HNe.out _ (by omega) (mem_rtFoot.2 (.inl (List.mem_singleton.1 hg))));clear hm1 hS1 hpm hr1 hsu hm2 hx1 HCt HBm HBk HBv HBh HBe HBc
 cases hfu:fullB M a.ents e.key with
 |false=>
  have hpc:putC M a.ents e.key=0:=by unfold putC;rw[hfu];rfl
  rw[hpc]at HR;have HP0:=qd hpc;clear hpc;rw[errV_zero]at HR;have r0:=HR.out.cell 0;simp only[List.getElem?_toArray,List.getElem?_cons_zero]at r0;go_upto_region 8 with fail;clear r0;obtain⟨cc,hcc⟩:=HS.out.core.c_;have hbk:=HS.out.blk.blk;unfold RmC.cells at hbk;have c3:=hbk.cell 3;simp only[gl]at c3;have x0:=HX.out.cell 0;simp only[List.getElem?_toArray,List.getElem?_cons_zero]at x0;have HLs:=qd (at_Last (hcc.below (Below.refl w1.heap.size w1).drew));unfold cntV at HLs;clear hbk hcc;refine rT (fun(w':World)=>w'.cell? ⟨w.heap.size,0,none⟩=some (.pointer (some ⟨b,0,none⟩))∧w'.cell? ⟨b,3,none⟩=some (.pointer (some ⟨C.cb,0,none⟩))) [7] ?_;have hHeld:=(⟨x0,c3⟩:_∧_);refine vT 0 rfl ?_;refine nT 1 rfl fun K hK=> ?_;go_simp;refine kO hK ?_;clear hK K;refine vW 2 rfl ?_;refine vW 3 rfl ?_;refine nT 4 rfl fun K hK=> ?_;go_simp;refine kO hK ?_;clear hK K;refine nT 5 rfl fun K hK=> ?_;go_simp;refine(core_Meter _ _).mono ?_;rintro y V1 ⟨rfl,rfl⟩;go_wp2_with fail;have hHeld:=(⟨x0,c3⟩:_∧_);refine kO hK ?_;clear hK K;refine nT 6 rfl fun K hK=> ?_;go_simp;refine(HLs.out).mono ?_;rintro y V2 ⟨rfl,hb⟩;replace hb:Below w1.heap.size w1 V2:=below_nx hb (Below.refl _ _).drew;replace HS:=qd (HS.out.below hb);replace x0:=cell_in hb x0;replace c3:=cell_in hb c3;clear hb HLs;go_wp2_with fail;have hHeld:=(⟨x0,c3⟩:_∧_);refine kO hK ?_;clear hK K;refine nT 7 rfl fun K hK=> ?_;go_simp
  have HWr:=qd (show Calls Tryz.prog 45 #[.pointer (some ⟨b,0,none⟩),.agg #[.int .i64 cc.p,.int .i64 cc.v,.int .i64 cc.u]] V2 _ from rm_wrote HS.out.blk HS.out.kk cc);refine(HWr.out).mono ?_;rintro y V3 ⟨rfl,hwr⟩;obtain⟨C3,hS3,q3,hcb3,hib3,hlf3⟩:=HS.out.wrote hwr;have HS3:=qd hS3;clear hS3 hwr q3 hcb3 hib3 hlf3 HWr HS x0 c3;go_wp2_with fail;refine kO hK ?_;clear hK K;refine doneT (by kernel_rfl) ?_ _;go_wp2;go_ret;exact⟨by rw[HP0.out];rfl,a',ids',_,HS3.out.to,HPm.out⟩
 |true=>
  have hpc:putC M a.ents e.key=2:=by unfold putC;rw[hfu];rfl
  rw[hpc]at HR;have HP0:=qd hpc;clear hpc;rw[errV_pos E (by omega:1≤2)]at HR;have r0:=HR.out.cell 0;simp only[List.getElem?_toArray,List.getElem?_cons_zero]at r0;go_upto_region 6 with fail;clear r0;obtain⟨cc,hcc⟩:=HS.out.core.c_;have hbk:=HS.out.blk.blk;unfold RmC.cells at hbk;have c3:=hbk.cell 3;simp only[gl]at c3;have x0:=HX.out.cell 0;simp only[List.getElem?_toArray,List.getElem?_cons_zero]at x0;have HLs:=qd (at_Last (hcc.below (Below.refl w1.heap.size w1).drew));unfold cntV at HLs;clear hbk hcc;refine rT (fun(w':World)=>w'.cell? ⟨w.heap.size,0,none⟩=some (.pointer (some ⟨b,0,none⟩))∧w'.cell? ⟨b,3,none⟩=some (.pointer (some ⟨C.cb,0,none⟩))) [7] ?_;have hHeld:=(⟨x0,c3⟩:_∧_);refine vT 0 rfl ?_;refine nT 1 rfl fun K hK=> ?_;go_simp;refine kO hK ?_;clear hK K;refine vW 2 rfl ?_;refine vW 3 rfl ?_;refine nT 4 rfl fun K hK=> ?_;go_simp;refine kO hK ?_;clear hK K;refine nT 5 rfl fun K hK=> ?_;go_simp;refine(core_Meter _ _).mono ?_;rintro y V1 ⟨rfl,rfl⟩;go_wp2_with fail;have hHeld:=(⟨x0,c3⟩:_∧_);refine kO hK ?_;clear hK K;refine nT 6 rfl fun K hK=> ?_;go_simp;refine(HLs.out).mono ?_;rintro y V2 ⟨rfl,hb⟩;replace hb:Below w1.heap.size w1 V2:=below_nx hb (Below.refl _ _).drew;replace HS:=qd (HS.out.below hb);replace HR:=qB hb HR;replace x0:=cell_in hb x0;replace c3:=cell_in hb c3;clear hb HLs;go_wp2_with fail;have hHeld:=(⟨x0,c3⟩:_∧_);refine kO hK ?_;clear hK K;refine nT 7 rfl fun K hK=> ?_;go_simp
  have HWr:=qd (show Calls Tryz.prog 42 #[.pointer (some ⟨b,0,none⟩),.agg #[.int .i64 cc.p,.int .i64 cc.v,.int .i64 cc.u]] V2 _ from rm_count HS.out.blk cc);refine(HWr.out).mono ?_;rintro y V3 ⟨rfl,hwr,q3⟩;have HS3:=qd (HS.out.setB hwr q3 ⟨rfl,rfl,rfl,rfl,rfl⟩);replace HR:=qd (HR.out.mod q3 HNb.out);clear hwr q3 HWr HS x0 c3;go_wp2_with fail;refine kO hK ?_;clear hK K;refine doneT (by kernel_rfl) ?_ _;have r0:=HR.out.cell 0;simp only[List.getElem?_toArray,List.getElem?_cons_zero]at r0;go_wp2;go_ret;exact⟨by rw[HP0.out,errV_pos E (by omega:1≤2)];rfl,a',ids',_,HS3.out.to,HPm.out⟩
end
section
variable {W0 w : World} {E : Nat → Addr}
theorem rt_New (H:Nat→Nat)(hE:Env W0 E w)(k m i:Int)(hcf:cfgOk k m i=true)(K M I:Nat)(hkm:(1≤K∧K≤64)∧(1≤M∧M≤192)∧k=(K:Int)∧m=(M:Int)∧i=(I:Int))(hi8:1≤I∧I≤8):Calls Tryz.prog 17 #[cfgV k m i] w fun y w'=>∃b G,y= .returned (.tuple #[.pointer (some ⟨b,0,none⟩),.nilIface])∧RtAt W0 E H K M I b G w' pool0 [] [] 0 ⟨0,0,0⟩∧(∀q∈G,w.heap.size≤q)∧Below w.heap.size w w':=by
 obtain⟨hK,hM,rfl,rfl,rfl⟩:=hkm;have HI:=qd (And.intro hK (And.intro hM hi8));have hB0:=Blk.new w 23 #[.int .i64 (K:Int),.int .i64 (M:Int),.int .i64 (I:Int)];have hb0:=(Below.refl w.heap.size w).alloc (Nat.le_refl _) (.cells #[.int .i64 (K:Int),.int .i64 (M:Int),.int .i64 (I:Int)] 23);obtain⟨W,hW⟩:∃W,W=w.alloc (.cells #[.int .i64 (K:Int),.int .i64 (M:Int),.int .i64 (I:Int)] 23):=⟨_,rfl⟩;rw[←hW]at hB0 hb0;have hnb:=core_New H (hE.next hb0) (K:Int) (M:Int) (I:Int) hcf K M I ⟨hK,hM,rfl,rfl,rfl⟩;have c:=hB0.c3;unfold cfgV at hnb⊢;have HNw:=qd hnb;have HX:=qd hB0;have HB:=qd hb0;have HW:=qd hW;have HE:=qd hE;clear hnb hB0 hb0 hW hK hM hi8 hE;go_in;go_upto_region 1 with fail;rw[←HW.out];go_wp2_with fail;refine HNw.out.mono ?_;rintro y w1 ⟨cb,rfl,hnew⟩;obtain⟨GC,hC,hsu,hmo⟩:=new_at hnew;have hb1:=hmo.to_below;have HC:=qd hC;have HSu:=qd (show∀q∈GC,W.heap.size≤q from fun q hq=>(hsu q hq).elim (fun k=>by cases k) (fun k=>k));have HGl:=qd (show∀q∈GC,q<w1.heap.size from fun q hq=>(hC.facts.2.2.2.2.2.2.2.2.2.2.1 q hq).1);replace HX:=qB hb1 HX;have HB1:=qd (below_nx hb1 HB.out);have HL0:=qd hb1.size;have HZ:=qd (show w.heap.size<W.heap.size from by rw[HW.out];simp);clear hnew hC hsu hmo hb1 HNw c;have c:=HX.out.c3;have HIt:=qd (iters_New I HI.out.2.2 w1);unfold coreP;go_wp2_with fail;refine HIt.out.mono ?_;rintro y w2 ⟨rfl,hit,hb2⟩;replace HC:=qd (HC.out.below hb2);replace HX:=qB hb2 HX;have HB2:=qd (below_nx hb2 HB1.out);have HIa:=qd hit
 have HL1:=qd (show W.heap.size≤w1.heap.size∧w1.heap.size+1<w2.heap.size from⟨HL0.out,hit.blk.lt⟩);clear hit hb2 HIt c;have c:=HX.out.c3;obtain⟨ib,hib⟩:∃ib,ib=w1.heap.size+1:=⟨_,rfl⟩;obtain⟨mb,hmb⟩:∃mb,mb=w1.heap.size:=⟨_,rfl⟩;rw[←hib]at HIa HL1⊢;rw[←hmb]at HIa;have HQ:=qd (show mb=w1.heap.size∧ib=w1.heap.size+1 from⟨hmb,hib⟩);clear hib hmb;obtain⟨C,hCdef⟩:∃C:RmC,C=⟨(K:Int),(M:Int),(I:Int),cb,0,0,⟨0,0,0⟩,⟨0,0,0⟩,ib,⟨0,0,0⟩,⟨0,0,0⟩⟩:=⟨_,rfl⟩;have hbb:=(Below.refl w2.heap.size w2).alloc (Nat.le_refl _) (.cells C.cells 95);have hnb:=Blk.new w2 95 C.cells
 have hS:RtS W0 E H K M I w2.heap.size [] w C GC mb 0 (w2.alloc (.cells C.cells 95)) pool0 [] []:=by
  have h1:=HL1.out.1;have h2:=HL1.out.2;obtain⟨g1,g2⟩:=HQ.out;have hg:=HGl.out;have hs:=HSu.out;have hz:=HZ.out;have hw0:=HE.out.size
  have e1:C.cb=cb:=by rw[hCdef]
  have e2:C.ib=ib:=by rw[hCdef]
  have hf:∀q,q∈itFoot ib mb []→q=ib∨q=mb:=fun q hq=>by unfold itFoot at hq;simpa using hq
  refine⟨⟨hnb,by rw[hCdef];exact Nat.zero_le _,by rw[hCdef];exact Nat.zero_le _⟩,by rw[hCdef];exact⟨rfl,rfl,rfl⟩,by rw[e1];exact HC.out.below hbb,by rw[e2];exact HIa.out.below hbb,⟨by omega,fun q hq=> ?_⟩,⟨fun hh=>by have:=hg _ hh;omega,fun hh=> ?_,fun q hq hh=> ?_⟩,fun q hq=> .inr ?_,(Mod.of_below (below_nx hbb HB2.out) []),hw0⟩
  ·rw[e2]at hq;rcases hf q hq with k|k<;>omega
  ·rw[e2]at hh;rcases hf _ hh with k|k<;>omega
  ·rw[e2]at hq;have:=hg q hh;rcases hf q hq with k|k<;>omega
  ·rcases mem_rtFoot.1 hq with k|k|k
   ·omega
   ·rw[e2]at k;rcases hf q k with k|k<;>omega
   ·have:=hs q k;omega
 have hto:=hS.to;have hbz:=below_nx hbb HB2.out;rw[hCdef]at hto hbz;unfold RmC.cells at hto hbz;have HF:=qd (And.intro hto hbz);clear hS hto hbz hbb hnb hCdef;go_wp2;refine bodyPost_ret (v:= .tuple #[.pointer (some ⟨w2.heap.size,0,none⟩),.nilIface]) (by simp[results,Tryz.results17,go_sem]) rfl ?_;obtain⟨G',k1,k2,k3⟩:=HF.out.1;exact⟨w2.heap.size,G',rfl,k1,fun q hq=>(k2 q hq).elim (fun z=>by cases z) (fun z=>z),HF.out.2⟩
theorem rt_New_bad (hE:Env W0 E w)(k m i:Int)(hcf:cfgOk k m i=false):Calls Tryz.prog 17 #[cfgV k m i] w fun y w'=>y= .returned (.tuple #[.pointer none,errV E 1])∧Below w.heap.size w w':=by
 have hB0:=Blk.new w 23 #[.int .i64 k,.int .i64 m,.int .i64 i];have hb0:=(Below.refl w.heap.size w).alloc (Nat.le_refl _) (.cells #[.int .i64 k,.int .i64 m,.int .i64 i] 23);obtain⟨W,hW⟩:∃W,W=w.alloc (.cells #[.int .i64 k,.int .i64 m,.int .i64 i] 23):=⟨_,rfl⟩;rw[←hW]at hB0 hb0;have hnb:=core_New_bad (hE.next hb0) k m i hcf;obtain⟨c0,c1,c2⟩:=hB0.c3;rw[errV_pos E (by omega:1≤1)]at hnb⊢;unfold cfgV at hnb⊢;have HNw:=qd hnb;have HB:=qd hb0;have HW:=qd hW;clear hnb hB0 hb0 hW hE;go_in;go_upto_region 1 with fail;rw[←HW.out];go_wp2_with fail;refine HNw.out.mono ?_;rintro y w1 ⟨rfl,hb⟩;have HB1:=qd (below_nx hb HB.out);clear hb HNw;go_wp2;refine bodyPost_ret (v:= .tuple #[.pointer none,.iface 346 (.pointer (some (E 1)))]) (by simp[results,Tryz.results17,go_sem]) rfl ⟨rfl,HB1.out⟩
end
section
variable {ops : Array Oper} {rest : List Oper} {o : Oper} {a : Act} {Q : Exit → Act → World → Prop} {r : Nat} {seen : Array Nat} {E : Nat → Addr} {w2 : World}
theorem map_erase {α β:Type}(f:α→β):∀(l:List α) (j:Nat),(l.map f).eraseIdx j=(l.eraseIdx j).map f
 | [],_=>by simp
 |x::l,0=>rfl
 |x::l,j+1=>by simp[map_erase f l j]
section
variable {P : Program} {w w' : World} {b g : Nat} {l : List (Nat × Nat)} {t k e : TypeId}
theorem MapL.del (h:MapL w b g l)(ht:P.underlying t=some (.map k e))(hk:P.underlying k=some (.int .i64)){j:Nat}{p:Nat×Nat}(hj:l[j]?=some p)(hn:(l.map Prod.fst).Nodup)(ty:TypeId):
  (Builtin.delete_ #[t,k] ty #[.map (some b),.int .i64 (p.1:Int)]).run P w= .ok (.tuple #[]) (setBlock w b (.map ((l.eraseIdx j).map mEnt).toArray g)):=by
 obtain⟨a,h1,h2,h4⟩:=find_now (p.1:Int) l 0;have h3:=run_findKey (P:=P) (w:=w) hk h1
 cases a with
 |none=>
  have:findL l (p.1:Int)=none:=by cases hf:findL l (p.1:Int)with|none=>rfl|some q=>rw[hf]at h2;cases h2
  exact absurd rfl (findL_none.1 this p (List.mem_of_getElem? hj))
 |some q=>
  obtain⟨i,v⟩:=q;obtain⟨j',h5,h6⟩:=h4 _ rfl
  have hij:i=j:=by
   simp only[Nat.zero_add]at h5;rw[List.getElem?_map]at h6
   cases hq:l[j']? with
   |none=>rw[hq]at h6;cases h6
   |some q'=>
    rw[hq]at h6
    have e0:(q'.1:Int)=(p.1:Int):=by simpa using h6
    have e1:q'.1=p.1:=by omega
    have a1:(l.map Prod.fst)[j']?=some p.1:=by rw[List.getElem?_map,hq];simp[e1]
    have a2:(l.map Prod.fst)[j]?=some p.1:=by rw[List.getElem?_map,hj];rfl
    obtain⟨b1,b2⟩:=List.getElem?_eq_some_iff.1 a1;obtain⟨b3,b4⟩:=List.getElem?_eq_some_iff.1 a2;rw[h5];have hp:=List.pairwise_iff_getElem.1 hn;rcases Nat.lt_trichotomy j' j with z|z|z
    ·exact absurd (b2.trans b4.symm) (hp _ _ b1 b3 z)
    ·exact z
    ·exact absurd (b4.trans b2.symm) (hp _ _ b3 b1 z)
  subst hij;simp[Builtin.delete_,run_underlying ht,Go.MapKept.run_getObj_map (show w.heap[b]?=some (.map (l.map mEnt).toArray g)from h),run_checkKey hk key_int,h3,Go.MapKept.run_setObj_map _ (show w.heap[b]?=some (.map (l.map mEnt).toArray g)from h),Result.andThen,setBlock,map_erase]
end
section
variable {w : World} {ib mb most given : Nat} {its : List It}
theorem itMap_fst (its:List It):(itMap its).map Prod.fst=its.map It.id:=by unfold itMap;rw[List.map_map];rfl
theorem ItAt.mb_cb (h:ItAt w ib mb most given its){i:It}(hi:i∈its):mb≠i.cb∧ib≠i.cb∧ib≠mb:=by
 have:=h.nf;unfold itFoot at this;rw[List.nodup_cons,List.nodup_cons]at this;have hm:=List.mem_map_of_mem (f:=It.cb) hi;exact⟨fun e=>this.2.1 (e▸hm),fun e=>this.1 (List.mem_cons_of_mem _ (e▸hm)),fun e=>this.1 (by rw[e];simp)⟩
theorem ItAt.erased {j:Nat}(h:ItAt w ib mb most given its)(hb:Blk w2 ib 134 #[.int .i64 (most:Int),.int .i64 (given:Int),.map (some mb)])(hm:MapL w2 mb given ((itMap its).eraseIdx j))(hmod:Mod [mb] w w2):ItAt w2 ib mb most given (its.eraseIdx j):=by
 have hs:=List.eraseIdx_sublist its j;refine⟨hb,by unfold itMap at hm⊢;rw[←map_erase];exact hm,fun i hi=>(h.cur i (hs.subset hi)).mod hmod (fun hh=>(h.mb_cb (hs.subset hi)).1 (List.mem_singleton.1 hh).symm),fun i hi=>h.ids i (hs.subset hi),h.nd.sublist (hs.map _), ?_,h.few.1,by have:=hs.length_le;have:=h.few.2;omega⟩;have:=h.nf;unfold itFoot at this⊢;exact this.sublist (((hs.map _).cons_cons _).cons_cons _)
theorem iters_Close {j id cb:Nat}{c:Cur}(h:ItAt w ib mb most given its)(hj:its[j]?=some ⟨id,cb,c⟩):Calls Tryz.prog 64 #[.pointer (some ⟨ib,0,none⟩),.int .i64 (id:Int)] w fun y w'=>y= .returned .nilIface∧ItAt w' ib mb most given (its.eraseIdx j)∧Mod [mb] w w':=by
 have HAt:=qd (iters_At h (List.mem_of_getElem? hj))
 have hj2:(itMap its)[j]?=some (id,cb):=by unfold itMap;rw[List.getElem?_map,hj];rfl
 have hdel:=fun ty=>h.map.del (P:=Tryz.prog) (t:=132) Tryz.underlying132 Tryz.underlying3 hj2 (by rw[itMap_fst];exact h.nd) ty;have hms:=h.map.set_ ((itMap its).eraseIdx j) given;have hmm:=h.map.mod_ (.map (((itMap its).eraseIdx j).map mEnt).toArray given);obtain⟨W2,hW2⟩:∃W2,W2=setBlock w mb (.map (((itMap its).eraseIdx j).map mEnt).toArray given):=⟨_,rfl⟩;rw[←hW2]at hms hmm;have him:ib∉[mb]:=fun hh=>(h.mb_cb (List.mem_of_getElem? hj)).2.2 (List.mem_singleton.1 hh);have HE:=qd (And.intro (h.erased (j:=j) (h.blk.mod hmm him) hms hmm) hmm);have c2:=h.blk.cell 2;simp only[gl]at c2 hdel;simp only[←hW2]at hdel;clear h hj hj2 hms hmm him hW2;go_in;go_wp2_with fail;refine HAt.out.mono ?_;rintro y w1 ⟨rfl,rfl⟩;go_wp2;go_ret;exact⟨rfl,HE.out⟩
def It.ended (i:It):It:=⟨i.id,i.cb,⟨0,0,true⟩⟩
theorem ItAt.ended (h:ItAt w ib mb most given its)(hb:Blk w2 ib 134 #[.int .i64 (most:Int),.int .i64 (given:Int),.map (some mb)])(hm:MapL w2 mb given (itMap its))(hc:∀i∈its,CurAt w2 i.cb ⟨0,0,true⟩):ItAt w2 ib mb most given (its.map It.ended):=by
 have e1:(its.map It.ended).map It.cb=its.map It.cb:=by rw[List.map_map];rfl
 have e2:(its.map It.ended).map It.id=its.map It.id:=by rw[List.map_map];rfl
 refine⟨hb,by unfold itMap at hm⊢;rw[List.map_map];exact hm,fun i hi=> ?_,fun i hi=> ?_,by rw[e2];exact h.nd,by have:=h.nf;unfold itFoot at this⊢;rw[e1];exact this,h.few.1,by rw[List.length_map];exact h.few.2⟩
 ·obtain⟨i',hi',rfl⟩:=List.mem_map.1 hi;exact hc i' hi'
 ·obtain⟨i',hi',rfl⟩:=List.mem_map.1 hi;exact h.ids i' hi'
end
end
section
variable {I Kk M b gv ib j mb : Nat} {its : List It} {H : Nat → Nat} {a : Pool} {W0 w : World} {E : Nat → Addr} {G ids : List Nat} {lst : Cnt}
theorem itFoot_erase:∀q∈itFoot ib mb (its.eraseIdx j),q∈itFoot ib mb its:=fun q hq=>by
 unfold itFoot at hq⊢;simp only[List.mem_cons]at hq⊢;rcases hq with h|h|h
 ·exact .inl h
 ·exact .inr (.inl h)
 ·exact .inr (.inr (((List.eraseIdx_sublist its j).map It.cb).subset h))
theorem rt_Close {id cb:Nat}{c:Cur}(h:RtAt W0 E H Kk M I b G w a ids its gv lst)(hj:its[j]?=some ⟨id,cb,c⟩):Calls Tryz.prog 33 #[.pointer (some ⟨b,0,none⟩),.int .i64 (id:Int)] w fun y w'=>y= .returned .nilIface∧RtTo W0 E H Kk M I b G w w' a ids (its.eraseIdx j) gv lst:=by
 obtain⟨C,GC,mb,hS,rfl,hlst⟩:=h;have hbk:=hS.blk.blk;unfold RmC.cells at hbk;have c16:=hbk.cell 16;simp only[gl]at c16;have HO:=qd (iters_Close hS.itr hj);have HS:=qd hS;have HQ:=qd hlst;clear hbk hS hlst hj;go_in;go_wp2_with fail;refine HO.out.mono ?_;rintro y w1 ⟨rfl,hi,hm⟩;have hs:=HS.out.setI hi hm (fun q hq=> .inl (by unfold itFoot;simp at hq⊢;exact .inr (.inl hq))) (fun q hq=> .inl (itFoot_erase q hq));have HE:=qd (show RtTo W0 E H Kk M I b (rtFoot b C GC mb its) w w1 a ids (its.eraseIdx j) gv lst from HQ.out▸hs.to);clear hs hi hm HO;go_wp2;go_ret;exact⟨rfl,HE.out⟩
end
end Go.Proofs.YthfgacnlojmmfaaGreatDoor
