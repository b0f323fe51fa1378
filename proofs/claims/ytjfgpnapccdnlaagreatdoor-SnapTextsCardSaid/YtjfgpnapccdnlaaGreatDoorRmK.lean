/- A map as one thing: its block, its core, its iterators. No statement of the claim. -/
import Derived.Test.YtjfgpnapccdnlaaGreatDoorRmC
import Derived.Test.YtjfgpnapccdnlaaGreatDoorKit2
import Derived.Test.YtjfgpnapccdnlaaGreatDoorSqT
import Derived.Test.YtjfgpnapccdnlaaGreatDoorBuilder
import Derived.Test.YtjfgpnapccdnlaaGreatDoorRmI
import Derived.Maps.RangeWalk
import Derived.Test.YtjfgpnapccdnlaaGreatDoorCoDA
namespace Go.Proofs.YtjfgpnapccdnlaaGreatDoor
set_option maxRecDepth 100000
set_option maxHeartbeats 4000000
open Go.RowKit dF Go.MapKept
open Go.ChangeMaps (setBlock heap_setBlock_same heap_setBlock_other)
section
variable {gU S : List Nat}
def eF (b:Nat)(C:iw)(GC:List Nat)(mb:Nat)(its:List It):List Nat:=b::(bH C.ib mb its++GC)
structure gq (W0:World)(E:Nat→Addr)(H:Nat→Nat)(K M I b:Nat)(G0:List Nat)(w0:World)(C:iw)(GC:List Nat)(mb gv:Nat)(w:World)(a:Pool)(ids:List Nat)(its:List It):Prop where
 blk:rW w b C
 cfg:C.k=(K:Int)∧C.m=(M:Int)∧C.i=(I:Int)
 core:jk W0 E H K M C.cb GC w a ids
 ou:gG w C.ib mb I gv its
 b0:W0.heap.size≤b∧∀q∈bH C.ib mb its,W0.heap.size≤q
 apart:b∉GC∧b∉bH C.ib mb its∧∀q∈bH C.ib mb its,q∉GC
 sub:∀q∈eF b C GC mb its,q∈G0∨w0.heap.size≤q
 mod:Mod G0 w0 w
 qz:W0.heap.size≤w0.heap.size
theorem aJ {b:Nat}{C:iw}{GC:List Nat}{mb:Nat}{its:List It}{q:Nat}:q∈eF b C GC mb its↔q=b∨q∈bH C.ib mb its∨q∈GC:=by unfold eF;simp
section
variable {W0 : World} {E : Nat → Addr} {H : Nat → Nat} {K M I b : Nat} {G0 : List Nat} {w0 : World} {C C' : iw} {GC : List Nat} {mb gv CB : Nat} {w w' : World} {a a' : Pool} {ids aP : List Nat} {its qO : List It}
theorem gq.iE (h:gq W0 E H K M I b G0 w0 C GC mb gv w a ids its):∀q∈eF b C GC mb its,q<w.heap.size∧W0.heap.size≤q:=fun q hq=>by
 rcases aJ.1 hq with rfl|hq|hq
 ·exact⟨h.blk.lt,h.b0.1⟩
 ·exact⟨h.ou.iE q hq,h.b0.2 q hq⟩
 ·exact h.core.facts.2.2.2.2.2.2.2.2.2.2.1 q hq
theorem gq.kk (h:gq W0 E H K M I b G0 w0 C GC mb gv w a ids its):1≤C.k∧C.k≤64:=by
 have:=h.core.facts.2.2.2.2.2.2.2.2.1;rw[h.cfg.1];omega
theorem gq.Eo (h:gq W0 E H K M I b G0 w0 C GC mb gv w a ids its)(hm:Mod S w w')(hS:∀q∈S,q∉eF b C GC mb its∧w0.heap.size≤q):gq W0 E H K M I b G0 w0 C GC mb gv w' a ids its:=by
 have h1:∀q∈eF b C GC mb its,q∉S:=fun q hq hs=>(hS q hs).1 hq;exact⟨h.blk.mod hm (h1 b (aJ.2 (.inl rfl))),h.cfg,h.core.mod hm (fun q hq=>⟨fun hg=>(hS q hq).1 (aJ.2 (.inr (.inr hg))),Nat.le_trans h.qz (hS q hq).2⟩),h.ou.mod hm (fun q hq=>h1 q (aJ.2 (.inr (.inl hq)))),h.b0,h.apart,h.sub,h.mod.trans hm (fun _ hk _=>hk) (fun k hk hl=>absurd (hS k hk).2 (by omega)),h.qz⟩
theorem gq.below (h:gq W0 E H K M I b G0 w0 C GC mb gv w a ids its)(hb:Below w.heap.size w w'):gq W0 E H K M I b G0 w0 C GC mb gv w' a ids its:=h.Eo (Mod.of_below hb []) (by simp)
theorem gq.Vb (h:gq W0 E H K M I b G0 w0 C GC mb gv w a ids its)(hB:rW w' b C')(hm:Mod [b] w w')(hk:C'.k=C.k∧C'.m=C.m∧C'.i=C.i∧C'.cb=C.cb∧C'.ib=C.ib):gq W0 E H K M I b G0 w0 C' GC mb gv w' a ids its:=by
 obtain⟨k1,k2,k3,k4,k5⟩:=hk;refine⟨hB,by rw[k1,k2,k3];exact h.cfg,by rw[k4];exact h.core.mod hm (fun q hq=>by rw[List.mem_singleton.1 hq];exact⟨h.apart.1,h.b0.1⟩),by rw[k5];exact h.ou.mod hm (fun q hq hs=>h.apart.2.1 (List.mem_singleton.1 hs▸hq)),by rw[k5];exact h.b0,by rw[k5];exact h.apart,fun q hq=>h.sub q (by rw[aJ]at hq⊢;rw[k5]at hq;exact hq),h.mod.trans hm (fun _ hk _=>hk) (fun k hk hl=> ?_),h.qz⟩;rcases h.sub b (aJ.2 (.inl rfl))with h1|h1
 ·rw[List.mem_singleton.1 hk];exact h1
 ·rw[List.mem_singleton.1 hk]at hl;omega
theorem Mod.within (h:Mod G0 w0 w)(hm:Mod S w w')(hs:∀q∈S,q∈G0∨w0.heap.size≤q):Mod G0 w0 w':=h.trans hm (fun _ hk _=>hk) fun k hk hl=>(hs k hk).elim id fun h1=>absurd h1 (by omega)
theorem gq.abA (h:gq W0 E H K M I b G0 w0 C GC mb gv w a ids its)(h1:jk W0 E H K M C.cb gU w' a' aP)(h2:∀q∈gU,q∈GC∨w.heap.size≤q)(h3:Mod GC w w'):gq W0 E H K M I b G0 w0 C gU mb gv w' a' aP its:=by
 have hbl:=h.blk.lt;have hil:=h.ou.iE;refine⟨h.blk.mod h3 h.apart.1,h.cfg,h1,h.ou.mod h3 h.apart.2.2,h.b0,⟨fun hg=> ?_,h.apart.2.1,fun q hq hg=> ?_⟩,fun q hq=> ?_,h.mod.within h3 (fun q hq=>h.sub q (aJ.2 (.inr (.inr hq)))),h.qz⟩
 ·rcases h2 b hg with k|k
  ·exact h.apart.1 k
  ·omega
 ·rcases h2 q hg with k|k
  ·exact h.apart.2.2 q hq k
  ·have:=hil q hq;omega
 ·rcases aJ.1 hq with k|k|k
  ·exact h.sub q (aJ.2 (.inl k))
  ·exact h.sub q (aJ.2 (.inr (.inl k)))
  ·rcases h2 q k with k|k
   ·exact h.sub q (aJ.2 (.inr (.inr k)))
   ·have:=h.mod.size;exact .inr (by omega)
theorem gq.afw (h:gq W0 E H K M I b G0 w0 C GC mb gv w a ids its)(hc:pq W0 E H K M C.cb GC w w' a' aP):∃gU,gq W0 E H K M I b G0 w0 C gU mb gv w' a' aP its∧(∀q∈gU,q∈GC∨w.heap.size≤q)∧Mod GC w w':=by
 obtain⟨gU,h1,h2,h3⟩:=hc;exact⟨gU,h.abA h1 h2 h3,h2,h3⟩
theorem gq.aaQ (h:gq W0 E H K M I b G0 w0 C GC mb gv w a ids its)(hi:gG w' C.ib mb I CB qO)(hm:Mod S w w')(hS:∀q∈S,q∈bH C.ib mb its∨(q∉eF b C GC mb its∧w0.heap.size≤q))(hn:∀q∈bH C.ib mb qO,q∈bH C.ib mb its∨w.heap.size≤q):gq W0 E H K M I b G0 w0 C GC mb CB w' a ids qO:=by
 have hbl:=h.blk.lt;have hcl:=h.core.facts.2.2.2.2.2.2.2.2.2.2.1;have hen:=h.core.facts.2.2.2.2.2.2.2.2.2.2.2.size;refine⟨h.blk.mod hm (fun hs=> ?_),h.cfg,h.core.mod hm (fun q hq=> ?_),hi,⟨h.b0.1,fun q hq=> ?_⟩,⟨h.apart.1,fun hq=> ?_,fun q hq hg=> ?_⟩,fun q hq=> ?_,h.mod.within hm (fun q hq=> ?_),h.qz⟩
 ·rcases hS b hs with k|k
  ·exact h.apart.2.1 k
  ·exact k.1 (aJ.2 (.inl rfl))
 ·rcases hS q hq with k|k
  ·exact⟨h.apart.2.2 q k,h.b0.2 q k⟩
  ·exact⟨fun hg=>k.1 (aJ.2 (.inr (.inr hg))),Nat.le_trans h.qz k.2⟩
 ·rcases hn q hq with k|k
  ·exact h.b0.2 q k
  ·omega
 ·rcases hn b hq with k|k
  ·exact h.apart.2.1 k
  ·omega
 ·rcases hn q hq with k|k
  ·exact h.apart.2.2 q k hg
  ·have:=(hcl q hg).1;omega
 ·rcases aJ.1 hq with k|k|k
  ·exact h.sub q (aJ.2 (.inl k))
  ·rcases hn q k with k|k
   ·exact h.sub q (aJ.2 (.inr (.inl k)))
   ·have:=h.mod.size;exact .inr (by omega)
  ·exact h.sub q (aJ.2 (.inr (.inr k)))
 ·rcases hS q hq with k|k
  ·exact h.sub q (aJ.2 (.inr (.inl k)))
  ·exact .inr k.2
theorem gq.again (h:gq W0 E H K M I b G0 w0 C GC mb gv w a ids its):gq W0 E H K M I b (eF b C GC mb its) w C GC mb gv w a ids its:=⟨h.blk,h.cfg,h.core,h.ou,h.b0,h.apart,fun q hq=> .inl hq,Mod.refl _ _,by have:=h.core.facts.2.2.2.2.2.2.2.2.2.2.2.size;exact this⟩
theorem gq.chain {mb':Nat}(h:gq W0 E H K M I b G0 w0 C GC mb gv w a ids its)(k:gq W0 E H K M I b (eF b C GC mb its) w C' gU mb' CB w' a' aP qO):gq W0 E H K M I b G0 w0 C' gU mb' CB w' a' aP qO:=
 ⟨k.blk,k.cfg,k.core,k.ou,k.b0,k.apart,fun q hq=>(k.sub q hq).elim (fun g=>h.sub q g) (fun g=> .inr (by have:=h.mod.size;omega)),h.mod.within k.mod h.sub,h.qz⟩
end
def nV (W0:World)(E:Nat→Addr)(H:Nat→Nat)(K M I b:Nat)(G:List Nat)(w:World)(a:Pool)(ids:List Nat)(its:List It)(gv:Nat)(gL:bF):Prop:=
 ∃(C:iw) (GC:List Nat) (mb:Nat),gq W0 E H K M I b (eF b C GC mb its) w C GC mb gv w a ids its∧G=eF b C GC mb its∧C.last=gL
def tC (W0:World)(E:Nat→Addr)(H:Nat→Nat)(K M I b:Nat)(G:List Nat)(w w':World)(a':Pool)(aP:List Nat)(qO:List It)(CB:Nat)(jG:bF):Prop:=
 ∃G',nV W0 E H K M I b G' w' a' aP qO CB jG∧(∀q∈G',q∈G∨w.heap.size≤q)∧Mod G w w'
section
variable {W0 : World} {E : Nat → Addr} {H : Nat → Nat} {K M I b : Nat} {G G0 : List Nat} {w0 w w' : World} {C : iw} {GC : List Nat} {mb gv CB : Nat} {a a' : Pool} {ids aP : List Nat} {its qO : List It} {gL jG : bF}
theorem gq.to (h:gq W0 E H K M I b G w C GC mb gv w' a' aP qO):tC W0 E H K M I b G w w' a' aP qO gv C.last:=⟨_,⟨C,GC,mb,h.again,rfl,rfl⟩,h.sub,h.mod⟩
theorem nV.mod (h:nV W0 E H K M I b G w a ids its gv gL)(hm:Mod S w w')(hS:∀q∈S,q∉G∧W0.heap.size≤q):nV W0 E H K M I b G w' a ids its gv gL:=by
 obtain⟨C,GC,mb,h1,rfl,h2⟩:=h;have k1:∀q∈eF b C GC mb its,q∉S:=fun q hq hs=>(hS q hs).1 hq;have h3:gq W0 E H K M I b (eF b C GC mb its) w' C GC mb gv w' a ids its:=⟨h1.blk.mod hm (k1 b (aJ.2 (.inl rfl))),h1.cfg,h1.core.mod hm (fun q hq=>⟨fun hg=>(hS q hq).1 (aJ.2 (.inr (.inr hg))),(hS q hq).2⟩),h1.ou.mod hm (fun q hq=>k1 q (aJ.2 (.inr (.inl hq)))),h1.b0,h1.apart,fun q hq=> .inl hq,Mod.refl _ _,by have:=h1.qz;have:=hm.size;omega⟩;exact⟨C,GC,mb,h3,rfl,h2⟩
theorem nV.below (h:nV W0 E H K M I b G w a ids its gv gL)(hb:Below w.heap.size w w'):nV W0 E H K M I b G w' a ids its gv gL:=h.mod (Mod.of_below hb []) (by simp)
theorem nV.facts (h:nV W0 E H K M I b G w a ids its gv gL):(∀q∈G,q<w.heap.size∧W0.heap.size≤q)∧(a.ents.map ay.key).Nodup∧a.ents.length≤M∧M≤192∧a.Ns.length≤32∧1≤a.Ns.length∧(its.map It.id).Nodup∧its.length≤I∧I≤8∧Env W0 E w:=by
 obtain⟨C,GC,mb,h1,rfl,h2⟩:=h;obtain⟨_,_,f3,f4,_,_,f7,f8,_,f10,_,f12⟩:=h1.core.facts;exact⟨h1.iE,f10,f7,f8,f3,f4,h1.ou.nd,h1.ou.few.2,h1.ou.few.1,f12⟩
theorem tC.next (h:tC W0 E H K M I b G w w' a' aP qO CB jG){w2:World}(hb:Below w'.heap.size w' w2):tC W0 E H K M I b G w w2 a' aP qO CB jG:=by
 obtain⟨G',h1,h2,h3⟩:=h;exact⟨G',h1.below hb,h2,h3.then (Mod.of_below hb _)⟩
theorem adY (h:nV W0 E H K M I b G w a ids its gv gL):Calls Tryz.prog 37 #[.pointer (some ⟨b,0,none⟩)] w fun y w'=>y= .returned (.int .i64 (a.ents.length:Int))∧w=w':=by
 obtain⟨C,GC,mb,hS,rfl,zW⟩:=h;have hbk:=hS.blk.blk;unfold iw.cells at hbk;have c3:=hbk.cell 3;simp only[gl]at c3;have HL:=qd (adV hS.core);unfold bU at HL;clear hbk hS zW;go_in;go_wp2_with fail;refine HL.out.mono ?_;rintro y w1 ⟨rfl,rfl⟩;go_wp2;go_ret;exact⟨rfl,rfl⟩
theorem acC (h:nV W0 E H K M I b G w a ids its gv gL)(hlt:its.length<I)(hg:gv≤100000):Calls Tryz.prog 35 #[.pointer (some ⟨b,0,none⟩)] w fun y w'=>∃cb,y= .returned (.tuple #[.int .i64 ((gv+1:Nat):Int),.nilIface])∧tC W0 E H K M I b G w w' a ids (its++[⟨gv+1,cb,⟨0,0,false⟩⟩]) (gv+1) gL:=by
 obtain⟨C,GC,mb,hS,rfl,zW⟩:=h;have hbk:=hS.blk.blk;unfold iw.cells at hbk;have c16:=hbk.cell 16;simp only[gl]at c16;have hop:=Va hS.ou hlt hg;have HO:=qd hop;have HS:=qd hS;have HQ:=qd zW;clear hbk hS hop zW;go_in;go_wp2_with fail;refine HO.out.mono ?_;rintro y w1 ⟨cb,hcb,rfl,hi,hm⟩
 have hs:=HS.out.aaQ hi hm (fun q hq=> .inl (by unfold bH;simp at hq⊢;rcases hq with k|k;exact .inl k;exact .inr (.inl k))) (fun q hq=>by
  unfold bH at hq⊢;simp only[List.map_append,List.mem_cons,List.mem_append,List.map_cons,List.map_nil,List.not_mem_nil,or_false]at hq⊢;rcases hq with k|k|k|k
  ·exact .inl (.inl k)
  ·exact .inl (.inr (.inl k))
  ·exact .inl (.inr (.inr k))
  ·exact .inr (k▸hcb))
 have HE:=qd (show tC W0 E H K M I b (eF b C GC mb its) w w1 a ids (its++[⟨gv+1,cb,⟨0,0,false⟩⟩]) (gv+1) gL from HQ.out▸hs.to);clear hs hi hm hcb HO;go_wp2;refine bodyPost_ret (v:= .tuple #[.int .i64 ((gv:Int)+1),.nilIface]) (by simp[results,Tryz.results35,go_sem]) rfl ⟨cb,rfl,HE.out⟩
end
def aaR (W0:World)(E:Nat→Addr)(H:Nat→Nat)(K M I b:Nat)(G0:List Nat)(w0:World)(C:iw)(GC:List Nat)(mb gv:Nat)(its:List It)(R:Pool→List Nat→Prop)(pr:Nat)(t:TypeId)(v:Value)(V w':World):Prop:=
 ∃gU a' aP,gq W0 E H K M I b G0 w0 C gU mb gv w' a' aP its∧R a' aP∧aj w' pr t #[v]∧(∀q∈gU,q∈GC∨V.heap.size≤q)∧Mod (pr::GC) V w'
theorem X8 (E:Nat→Addr)(k:Nat):jO E k= .nilIface∨∃A,jO E k= .iface 391 (.pointer (some A)):=by
 unfold jO;split
 ·exact .inl rfl
 ·exact .inr ⟨_,rfl⟩
theorem acD {W0:World}{E:Nat→Addr}{H:Nat→Nat}{Kk M I b:Nat}{G0:List Nat}{w0 V:World}{C:iw}{GC:List Nat}{mb gv:Nat}{a:Pool}{ids:List Nat}{its:List It}{pm pk pv ph pr:Nat}{e:ay}(hS:gq W0 E H Kk M I b G0 w0 C GC mb gv V a ids its)(hm:aj V pm 40 #[.pointer (some ⟨b,0,none⟩)])(hk:aj V pk 28 #[.int .u64 (e.key:Int)])(hv:aj V pv 28 #[.int .u64 (e.val:Int)])(hh:aj V ph 28 #[.int .u64 (e.hash:Int)])(hr:aj V pr 32 #[.nilIface])(hne:pr∉eF b C GC mb its∧w0.heap.size≤pr)(he:nu H e):Calls Tryz.prog 29 #[.pointer (some ⟨pm,0,none⟩),.pointer (some ⟨pk,0,none⟩),.pointer (some ⟨pv,0,none⟩),.pointer (some ⟨ph,0,none⟩),.pointer (some ⟨pr,0,none⟩)] V fun y w'=>y= .returned undef∧aaR W0 E H Kk M I b G0 w0 C GC mb gv its (En H Kk M a ids e) pr 32 (jO E (uG M a.ents e.key)) V w':=by
 have hbk:=hS.blk.blk;unfold iw.cells at hbk;have c3:=hbk.cell 3;simp only[gl]at c3;have xm:=hm.cell 0;have xk:=hk.cell 0;have xv:=hv.cell 0;have xh:=hh.cell 0;simp only[List.getElem?_toArray,List.getElem?_cons_zero]at xm xk xv xh;have HS:=qd hS;have lZ:=qd hr;have mV:=qd hne;have HE:=qd he;have hdr:=(Below.refl V.heap.size V).drew;have hcl:=acz (hS.core.below hdr) e he;unfold bU at hcl;obtain⟨ev,hev⟩:∃ev,ev=jO E (uG M a.ents e.key):=⟨_,rfl⟩;have hone:ev= .nilIface∨∃A,ev= .iface 391 (.pointer (some A)):=hev▸X8 E _;rw[←hev]at hcl⊢;have vI:=qd hone;clear hone;have Dz:=qd hcl;clear hcl hev hbk hS hr hne he hdr hm hk hv hh;go_in;refine rT (fun(w':World)=>w'.cell? ⟨pm,0,none⟩=some (.pointer (some ⟨b,0,none⟩))∧w'.cell? ⟨pk,0,none⟩=some (.int .u64 (e.key:Int))∧w'.cell? ⟨pv,0,none⟩=some (.int .u64 (e.val:Int))∧w'.cell? ⟨ph,0,none⟩=some (.int .u64 (e.hash:Int))∧w'.cell? ⟨b,3,none⟩=some (.pointer (some ⟨C.cb,0,none⟩))) [7,8] ?_;have hHeld:=(⟨xm,xk,xv,xh,c3⟩:_∧_∧_∧_∧_);refine vT 4 rfl ?_;refine vT 5 rfl ?_;refine vT 6 rfl ?_;refine nT 0 rfl fun K hK=> ?_;go_simp;refine kO hK ?_;clear hK K;refine vW 1 rfl ?_;refine vW 2 rfl ?_;refine vT 3 rfl ?_;refine nT 7 rfl fun K hK=> ?_;go_simp;refine Dz.out.mono ?_;rintro y V1 ⟨rfl,a',aP,hto,hpm⟩;obtain⟨gU,hS1,hsub,hmod⟩:=(HS.out.below (Below.refl V.heap.size V).drew).afw hto;have gD:=qd hS1;have El:=qd hpm;have Vd:Mod GC V V1:=(Mod.of_below (Below.refl V.heap.size V).drew GC).then hmod
 have AY:=qd (show∀q∈gU,q∈GC∨V.heap.size≤q from hsub);have hpl:=lZ.out.lt;have hr1:=(lZ.out.mod Vd (fun hg=>mV.out.1 (aJ.2 (.inr (.inr hg)))));have HR1:=qd hr1;have HMo:=qd Vd;have jB:=qd hpl;clear hto hpm hS1 hsub hmod Vd hr1 hpl Dz;go_wp2_with fail;refine kO hK ?_;clear hK K;refine nT 8 rfl fun K hK=> ?_;have r0:=HR1.out.cell 0;simp only[List.getElem?_toArray,List.getElem?_cons_zero]at r0;have rf:=HR1.out.frozen 0;have hn2:=HR1.out.ak 0 (ev);have hm2:=(Mod.refl [pr] V1).sl 0 (ev);simp only[List.setIfInBounds_toArray,List.set_cons_zero]at hn2
 have hfr:∀q∈[pr],q∉eF b C gU mb its∧w0.heap.size≤q:=fun q hq=>by
  rw[List.mem_singleton.1 hq];refine⟨fun hg=> ?_,mV.out.2⟩;rcases aJ.1 hg with k|k|k
  ·exact mV.out.1 (aJ.2 (.inl k))
  ·exact mV.out.1 (aJ.2 (.inr (.inl k)))
  ·rcases AY.out pr k with k|k
   ·exact mV.out.1 (aJ.2 (.inr (.inr k)))
   ·have:=jB.out;omega
 have HF:=qd (show aaR W0 E H Kk M I b G0 w0 C GC mb gv its (En H Kk M a ids e) pr 32 (ev) V (V1.setCell ⟨pr,0,none⟩ (ev))from⟨gU,a',aP,gD.out.Eo hm2 hfr,El.out,hn2,AY.out,(HMo.out.more (fun q hq=>List.mem_cons_of_mem _ hq)).then (hm2.more (fun q hq=>by rw[List.mem_singleton.1 hq];simp))⟩);clear hn2 hm2 hfr;rcases vI.out with hv|⟨A,hv⟩
 all_goals
  subst hv;go_simp;refine kO hK ?_;clear hK K;refine aX (by kernel_rfl) ?_ _;go_wp2;go_end0;exact⟨rfl,HF.out⟩
end
section
section
variable {W0 : World} {E : Nat → Addr} {H : Nat → Nat} {Kk M I b : Nat} {G0 : List Nat} {w0 w w' : World} {C : iw} {GC : List Nat} {mb gv : Nat} {a : Pool} {ids : List Nat} {its : List It}
theorem gq.wrote (h:gq W0 E H Kk M I b G0 w0 C GC mb gv w a ids its)(hw:Wrote w b C w'):∃C',gq W0 E H Kk M I b G0 w0 C' GC mb gv w' a ids its∧Mod [b] w w'∧C'.cb=C.cb∧C'.ib=C.ib∧C'.lf≤C.lf:=by
 obtain⟨lf,gn,ma,ml,last,all,h1,h2,h3⟩:=hw;exact⟨_,h.Vb h2 h3 ⟨rfl,rfl,rfl,rfl,rfl⟩,h3,rfl,rfl,h1⟩
end
theorem adZ {W0:World}{E:Nat→Addr}{H:Nat→Nat}{Kk M I b:Nat}{G:List Nat}{w:World}{a:Pool}{ids:List Nat}{its:List It}{gv:Nat}{gL:bF}(h:nV W0 E H Kk M I b G w a ids its gv gL)(e:ay)(he:nu H e):Calls Tryz.prog 14 #[.pointer (some ⟨b,0,none⟩),.int .u64 (e.key:Int),.int .u64 (e.val:Int),.int .u64 (e.hash:Int)] w fun y w'=>y= .returned (jO E (uG M a.ents e.key))∧∃a' aP jG,tC W0 E H Kk M I b G w w' a' aP its gv jG∧En H Kk M a ids e a' aP:=by
 obtain⟨C,GC,mb,hS,rfl,zW⟩:=h;obtain⟨W,hW,hB,hBm,hBk,hBv,Co,Qt⟩:=qX5 w 40 #[.pointer (some ⟨b,0,none⟩)] 28 #[.int .u64 (e.key:Int)] 28 #[.int .u64 (e.val:Int)] 28 #[.int .u64 (e.hash:Int)] 32 #[.nilIface];have hlt:=fun q hq=>(hS.iE q hq).1;have mV:=qd (show∀q,w.heap.size≤q→q∉eF b C GC mb its from fun q hq hg=>by have:=hlt q hg;omega);have HS:=qd (hS.below hB);have hsz:=hB.size;have SI:=qd hBm;have HBk:=qd hBk;have HBv:=qd hBv;have HBh:=qd Co;have Aq:=qd Qt;have hWl:=Qt.lt;have HW:=qd hW;have HE:=qd he;clear hW hB hS hlt hBm hBk hBv Co Qt;have pW:∀(fn:Fn) (first cap:Array Value) (w:World),(Instr.makeFunc fn first cap).run Tryz.prog w= .ok (.func fn first cap) w:=fun _ _ _ _=>rfl;have yM:=(Below.refl W.heap.size W).alloc (Nat.le_refl _) (.cells #[.nilIface] 32)
 have yN:=qd (Jy (S:=(w.heap.size+1+1+1+1)::GC) (K:=fun w1=>aaR W0 E H Kk M I b (eF b C GC mb its) w C GC mb gv its (En H Kk M a ids e) (w.heap.size+1+1+1+1) 32 (jO E (uG M a.ents e.key)) (W.alloc (.cells #[.nilIface] 32)) w1) 29 #[.pointer (some ⟨w.heap.size,0,none⟩),.pointer (some ⟨(w.heap.size+1),0,none⟩),.pointer (some ⟨(w.heap.size+1+1),0,none⟩),.pointer (some ⟨(w.heap.size+1+1+1),0,none⟩),.pointer (some ⟨(w.heap.size+1+1+1+1),0,none⟩)] W (fun V=>enters_of Tryz.func29 (by kernel_rfl) rfl _ V)
  (fun hg=>by
   rcases List.mem_cons.1 hg with k|k
   ·omega
   ·exact mV.out _ (by omega) (aJ.2 (.inr (.inr k))))
  ((acD (HS.out.below yM) (SI.out.mod (Mod.of_below yM []) (by simp)) (HBk.out.mod (Mod.of_below yM []) (by simp)) (HBv.out.mod (Mod.of_below yM []) (by simp)) (HBh.out.mod (Mod.of_below yM []) (by simp)) (Aq.out.mod (Mod.of_below yM []) (by simp)) ⟨mV.out _ (by omega),by omega⟩ HE.out).mono (fun y w1 hh=>⟨hh.1,(by obtain⟨_,_,_,_,_,_,_,q⟩:=hh.2;exact q),hh.2⟩)))
 have yO:=qd yM;clear yM;go_in;go_upto_region 2 with fail;rw[←HW.out];go_wp2_with fail;refine yN.out.mono ?_;rintro y w1 ⟨rfl,hm1,gU,a',aP,hS1,hpm,hr1,hsu,hm2⟩;have HS:=qd hS1;have El:=qd hpm;have HR:=qd hr1
 have hx1:=(SI.out.mod (Mod.of_below yO.out []) (by simp)).mod hm1 (fun hg=>by
  rcases List.mem_cons.1 hg with k|k
  ·omega
  ·exact mV.out _ (Nat.le_refl _) (aJ.2 (.inr (.inr k))))
 have HX:=qd hx1;have Qj:=qd (show(w.heap.size+1+1+1+1)∉[b]from fun hg=>mV.out _ (by omega) (aJ.2 (.inl (List.mem_singleton.1 hg))));clear hm1 hS1 hpm hr1 hsu hm2 hx1 yN SI HBk HBv HBh Aq yO
 cases hfu:tu M a.ents e.key with
 |false=>
  have hpc:uG M a.ents e.key=0:=by unfold uG;rw[hfu];rfl
  rw[hpc]at HR;have X0:=qd hpc;clear hpc;rw[KP]at HR;have r0:=HR.out.cell 0;simp only[List.getElem?_toArray,List.getElem?_cons_zero]at r0;go_upto_region 8 with fail;clear r0;obtain⟨cc,hcc⟩:=HS.out.core.c_;have hbk:=HS.out.blk.blk;unfold iw.cells at hbk;have c3:=hbk.cell 3;simp only[gl]at c3;have x0:=HX.out.cell 0;simp only[List.getElem?_toArray,List.getElem?_cons_zero]at x0;have iG:=qd (Ko (hcc.below (Below.refl w1.heap.size w1).drew));unfold oJ at iG;clear hbk hcc;refine rT (fun(w':World)=>w'.cell? ⟨w.heap.size,0,none⟩=some (.pointer (some ⟨b,0,none⟩))∧w'.cell? ⟨b,3,none⟩=some (.pointer (some ⟨C.cb,0,none⟩))) [7] ?_;have hHeld:=(⟨x0,c3⟩:_∧_);refine vT 0 rfl ?_;refine nT 1 rfl fun K hK=> ?_;go_simp;refine kO hK ?_;clear hK K;refine vW 2 rfl ?_;refine vW 3 rfl ?_;refine nT 4 rfl fun K hK=> ?_;go_simp;refine kO hK ?_;clear hK K;refine nT 5 rfl fun K hK=> ?_;go_simp;refine(Ca _ _).mono ?_;rintro y V1 ⟨rfl,rfl⟩;go_wp2_with fail;have hHeld:=(⟨x0,c3⟩:_∧_);refine kO hK ?_;clear hK K;refine nT 6 rfl fun K hK=> ?_;go_simp;refine(iG.out).mono ?_;rintro y V2 ⟨rfl,hb⟩;replace hb:Below w1.heap.size w1 V2:=bP hb (Below.refl _ _).drew;replace HS:=qd (HS.out.below hb);replace x0:=aA hb x0;replace c3:=aA hb c3;clear hb iG;go_wp2_with fail;have hHeld:=(⟨x0,c3⟩:_∧_);refine kO hK ?_;clear hK K;refine nT 7 rfl fun K hK=> ?_;go_simp
  have vO:=qd (show Calls Tryz.prog 34 #[.pointer (some ⟨b,0,none⟩),.agg #[.int .i64 cc.p,.int .i64 cc.v,.int .i64 cc.u]] V2 _ from aaO HS.out.blk HS.out.kk cc);refine(vO.out).mono ?_;rintro y V3 ⟨rfl,hwr⟩;obtain⟨C3,hS3,q3,afx,afy,afz⟩:=HS.out.wrote hwr;have kN:=qd hS3;clear hS3 hwr q3 afx afy afz vO HS x0 c3;go_wp2_with fail;refine kO hK ?_;clear hK K;refine aX (by kernel_rfl) ?_ _;go_wp2;go_ret;exact⟨by rw[X0.out];rfl,a',aP,_,kN.out.to,El.out⟩
 |true=>
  have hpc:uG M a.ents e.key=2:=by unfold uG;rw[hfu];rfl
  rw[hpc]at HR;have X0:=qd hpc;clear hpc;rw[iL E (by omega:1≤2)]at HR;have r0:=HR.out.cell 0;simp only[List.getElem?_toArray,List.getElem?_cons_zero]at r0;go_upto_region 6 with fail;clear r0;obtain⟨cc,hcc⟩:=HS.out.core.c_;have hbk:=HS.out.blk.blk;unfold iw.cells at hbk;have c3:=hbk.cell 3;simp only[gl]at c3;have x0:=HX.out.cell 0;simp only[List.getElem?_toArray,List.getElem?_cons_zero]at x0;have iG:=qd (Ko (hcc.below (Below.refl w1.heap.size w1).drew));unfold oJ at iG;clear hbk hcc;refine rT (fun(w':World)=>w'.cell? ⟨w.heap.size,0,none⟩=some (.pointer (some ⟨b,0,none⟩))∧w'.cell? ⟨b,3,none⟩=some (.pointer (some ⟨C.cb,0,none⟩))) [7] ?_;have hHeld:=(⟨x0,c3⟩:_∧_);refine vT 0 rfl ?_;refine nT 1 rfl fun K hK=> ?_;go_simp;refine kO hK ?_;clear hK K;refine vW 2 rfl ?_;refine vW 3 rfl ?_;refine nT 4 rfl fun K hK=> ?_;go_simp;refine kO hK ?_;clear hK K;refine nT 5 rfl fun K hK=> ?_;go_simp;refine(Ca _ _).mono ?_;rintro y V1 ⟨rfl,rfl⟩;go_wp2_with fail;have hHeld:=(⟨x0,c3⟩:_∧_);refine kO hK ?_;clear hK K;refine nT 6 rfl fun K hK=> ?_;go_simp;refine(iG.out).mono ?_;rintro y V2 ⟨rfl,hb⟩;replace hb:Below w1.heap.size w1 V2:=bP hb (Below.refl _ _).drew;replace HS:=qd (HS.out.below hb);replace HR:=qB hb HR;replace x0:=aA hb x0;replace c3:=aA hb c3;clear hb iG;go_wp2_with fail;have hHeld:=(⟨x0,c3⟩:_∧_);refine kO hK ?_;clear hK K;refine nT 7 rfl fun K hK=> ?_;go_simp
  have vO:=qd (show Calls Tryz.prog 31 #[.pointer (some ⟨b,0,none⟩),.agg #[.int .i64 cc.p,.int .i64 cc.v,.int .i64 cc.u]] V2 _ from BZ HS.out.blk cc);refine(vO.out).mono ?_;rintro y V3 ⟨rfl,hwr,q3⟩;have kN:=qd (HS.out.Vb hwr q3 ⟨rfl,rfl,rfl,rfl,rfl⟩);replace HR:=qd (HR.out.mod q3 Qj.out);clear hwr q3 vO HS x0 c3;go_wp2_with fail;refine kO hK ?_;clear hK K;refine aX (by kernel_rfl) ?_ _;have r0:=HR.out.cell 0;simp only[List.getElem?_toArray,List.getElem?_cons_zero]at r0;go_wp2;go_ret;exact⟨by rw[X0.out,iL E (by omega:1≤2)];rfl,a',aP,_,kN.out.to,El.out⟩
end
section
variable {W0 w : World} {E : Nat → Addr}
theorem ad1 (H:Nat→Nat)(hE:Env W0 E w)(k m i:Int)(hcf:BO k m i=true)(K M I:Nat)(hkm:(1≤K∧K≤64)∧(1≤M∧M≤192)∧k=(K:Int)∧m=(M:Int)∧i=(I:Int))(Iy:1≤I∧I≤8):Calls Tryz.prog 13 #[kR k m i] w fun y w'=>∃b G,y= .returned (.tuple #[.pointer (some ⟨b,0,none⟩),.nilIface])∧nV W0 E H K M I b G w' nC [] [] 0 ⟨0,0,0⟩∧(∀q∈G,w.heap.size≤q)∧Below w.heap.size w w':=by
 obtain⟨hK,hM,rfl,rfl,rfl⟩:=hkm;have HI:=qd (And.intro hK (And.intro hM Iy));have hB0:=aj.new w 44 #[.int .i64 (K:Int),.int .i64 (M:Int),.int .i64 (I:Int)];have hb0:=(Below.refl w.heap.size w).alloc (Nat.le_refl _) (.cells #[.int .i64 (K:Int),.int .i64 (M:Int),.int .i64 (I:Int)] 44);obtain⟨W,hW⟩:∃W,W=w.alloc (.cells #[.int .i64 (K:Int),.int .i64 (M:Int),.int .i64 (I:Int)] 44):=⟨_,rfl⟩;rw[←hW]at hB0 hb0;have hnb:=aaN H (hE.next hb0) (K:Int) (M:Int) (I:Int) hcf K M I ⟨hK,hM,rfl,rfl,rfl⟩;have c:=hB0.c3;unfold kR at hnb⊢;have mU:=qd hnb;have HX:=qd hB0;have HB:=qd hb0;have HW:=qd hW;have HE:=qd hE;clear hnb hB0 hb0 hW hK hM Iy hE;go_in;go_upto_region 1 with fail;rw[←HW.out];go_wp2_with fail;refine mU.out.mono ?_;rintro y w1 ⟨cb,rfl,hnew⟩;obtain⟨GC,hC,hsu,hmo⟩:=adW hnew;have hb1:=hmo.Br;have HC:=qd hC;have AY:=qd (show∀q∈GC,W.heap.size≤q from fun q hq=>(hsu q hq).elim (fun k=>by cases k) (fun k=>k));have HGl:=qd (show∀q∈GC,q<w1.heap.size from fun q hq=>(hC.facts.2.2.2.2.2.2.2.2.2.2.1 q hq).1);replace HX:=qB hb1 HX;have HB1:=qd (bP hb1 HB.out);have HL0:=qd hb1.size;have HZ:=qd (show w.heap.size<W.heap.size from by rw[HW.out];simp);clear hnew hC hsu hmo hb1 mU c;have c:=HX.out.c3;have HIt:=qd (X6 I HI.out.2.2 w1);unfold bU;go_wp2_with fail;refine HIt.out.mono ?_;rintro y w2 ⟨rfl,hit,hb2⟩;replace HC:=qd (HC.out.below hb2);replace HX:=qB hb2 HX;have HB2:=qd (bP hb2 HB1.out);have HIa:=qd hit
 have Mr:=qd (show W.heap.size≤w1.heap.size∧w1.heap.size+1<w2.heap.size from⟨HL0.out,hit.blk.lt⟩);clear hit hb2 HIt c;have c:=HX.out.c3;obtain⟨ib,hib⟩:∃ib,ib=w1.heap.size+1:=⟨_,rfl⟩;obtain⟨mb,hmb⟩:∃mb,mb=w1.heap.size:=⟨_,rfl⟩;rw[←hib]at HIa Mr⊢;rw[←hmb]at HIa;have HQ:=qd (show mb=w1.heap.size∧ib=w1.heap.size+1 from⟨hmb,hib⟩);clear hib hmb;obtain⟨C,Ce⟩:∃C:iw,C=⟨(K:Int),(M:Int),(I:Int),cb,0,0,⟨0,0,0⟩,⟨0,0,0⟩,ib,⟨0,0,0⟩,⟨0,0,0⟩⟩:=⟨_,rfl⟩;have hbb:=(Below.refl w2.heap.size w2).alloc (Nat.le_refl _) (.cells C.cells 91);have hnb:=aj.new w2 91 C.cells
 have hS:gq W0 E H K M I w2.heap.size [] w C GC mb 0 (w2.alloc (.cells C.cells 91)) nC [] []:=by
  have h1:=Mr.out.1;have h2:=Mr.out.2;obtain⟨g1,g2⟩:=HQ.out;have hg:=HGl.out;have hs:=AY.out;have hz:=HZ.out;have hw0:=HE.out.size
  have e1:C.cb=cb:=by rw[Ce]
  have e2:C.ib=ib:=by rw[Ce]
  have hf:∀q,q∈bH ib mb []→q=ib∨q=mb:=fun q hq=>by unfold bH at hq;simpa using hq
  refine⟨⟨hnb,by rw[Ce];exact Nat.zero_le _,by rw[Ce];exact Nat.zero_le _⟩,by rw[Ce];exact⟨rfl,rfl,rfl⟩,by rw[e1];exact HC.out.below hbb,by rw[e2];exact HIa.out.below hbb,⟨by omega,fun q hq=> ?_⟩,⟨fun hh=>by have:=hg _ hh;omega,fun hh=> ?_,fun q hq hh=> ?_⟩,fun q hq=> .inr ?_,(Mod.of_below (bP hbb HB2.out) []),hw0⟩
  ·rw[e2]at hq;rcases hf q hq with k|k<;>omega
  ·rw[e2]at hh;rcases hf _ hh with k|k<;>omega
  ·rw[e2]at hq;have:=hg q hh;rcases hf q hq with k|k<;>omega
  ·rcases aJ.1 hq with k|k|k
   ·omega
   ·rw[e2]at k;rcases hf q k with k|k<;>omega
   ·have:=hs q k;omega
 have hto:=hS.to;have hbz:=bP hbb HB2.out;rw[Ce]at hto hbz;unfold iw.cells at hto hbz;have HF:=qd (And.intro hto hbz);clear hS hto hbz hbb hnb Ce;go_wp2;refine bodyPost_ret (v:= .tuple #[.pointer (some ⟨w2.heap.size,0,none⟩),.nilIface]) (by simp[results,Tryz.results13,go_sem]) rfl ?_;obtain⟨G',k1,k2,k3⟩:=HF.out.1;exact⟨w2.heap.size,G',rfl,k1,fun q hq=>(k2 q hq).elim (fun z=>by cases z) (fun z=>z),HF.out.2⟩
end
section
variable {ops : Array Oper} {rest : List Oper} {o : Oper} {a : Act} {Q : Exit → Act → World → Prop} {r : Nat} {seen : Array Nat} {E : Nat → Addr} {w2 : World}
theorem Ep {α β:Type}(f:α→β):∀(l:List α) (j:Nat),(l.map f).eraseIdx j=(l.eraseIdx j).map f
 | [],_=>by simp
 |x::l,0=>rfl
 |x::l,j+1=>by simp[Ep f l j]
section
variable {P : Program} {w w' : World} {b g : Nat} {l : List (Nat × Nat)} {t k e : TypeId}
theorem jd.del (h:jd w b g l)(ht:P.underlying t=some (.map k e))(hk:P.underlying k=some (.int .i64)){j:Nat}{p:Nat×Nat}(hj:l[j]?=some p)(hn:(l.map Prod.fst).Nodup)(ty:TypeId):
  (Builtin.delete_ #[t,k] ty #[.map (some b),.int .i64 (p.1:Int)]).run P w= .ok (.tuple #[]) (setBlock w b (.map ((l.eraseIdx j).map nD).toArray g)):=by
 obtain⟨a,h1,h2,h4⟩:=Cb (p.1:Int) l 0;have h3:=run_findKey (P:=P) (w:=w) hk h1
 cases a with
 |none=>
  have:nG l (p.1:Int)=none:=by cases hf:nG l (p.1:Int)with|none=>rfl|some q=>rw[hf]at h2;cases h2
  exact absurd rfl (Cc.1 this p (List.mem_of_getElem? hj))
 |some q=>
  obtain⟨i,v⟩:=q;obtain⟨j',h5,h6⟩:=h4 _ rfl
  have hij:i=j:=by
   simp only[Nat.zero_add]at h5;rw[List.getElem?_map]at h6
   cases hq:l[j']? with
   |none=>rw[hq]at h6;cases h6
   |some q'=>
    rw[hq]at h6
    have e0:(q'.1:Int)=(p.1:Int):=by simpa using h6
    have e1:q'.1=p.1:=by omega
    have a1:(l.map Prod.fst)[j']?=some p.1:=by rw[List.getElem?_map,hq];simp[e1]
    have a2:(l.map Prod.fst)[j]?=some p.1:=by rw[List.getElem?_map,hj];rfl
    obtain⟨b1,b2⟩:=List.getElem?_eq_some_iff.1 a1;obtain⟨b3,b4⟩:=List.getElem?_eq_some_iff.1 a2;rw[h5];have hp:=List.pairwise_iff_getElem.1 hn;rcases Nat.lt_trichotomy j' j with z|z|z
    ·exact absurd (b2.trans b4.symm) (hp _ _ b1 b3 z)
    ·exact z
    ·exact absurd (b4.trans b2.symm) (hp _ _ b3 b1 z)
  subst hij;simp[Builtin.delete_,run_underlying ht,Go.MapKept.run_getObj_map (show w.heap[b]?=some (.map (l.map nD).toArray g)from h),run_checkKey hk EP,h3,Go.MapKept.run_setObj_map _ (show w.heap[b]?=some (.map (l.map nD).toArray g)from h),Result.andThen,setBlock,Ep]
end
section
variable {w : World} {ib mb most given : Nat} {its : List It}
theorem X9 (its:List It):(gZ its).map Prod.fst=its.map It.id:=by unfold gZ;rw[List.map_map];rfl
theorem gG.abB (h:gG w ib mb most given its){i:It}(hi:i∈its):mb≠i.cb∧ib≠i.cb∧ib≠mb:=by
 have:=h.nf;unfold bH at this;rw[List.nodup_cons,List.nodup_cons]at this;have hm:=List.mem_map_of_mem (f:=It.cb) hi;exact⟨fun e=>this.2.1 (e▸hm),fun e=>this.1 (List.mem_cons_of_mem _ (e▸hm)),fun e=>this.1 (by rw[e];simp)⟩
theorem gG.erased {j:Nat}(h:gG w ib mb most given its)(hb:aj w2 ib 137 #[.int .i64 (most:Int),.int .i64 (given:Int),.map (some mb)])(hm:jd w2 mb given ((gZ its).eraseIdx j))(hmod:Mod [mb] w w2):gG w2 ib mb most given (its.eraseIdx j):=by
 have hs:=List.eraseIdx_sublist its j;refine⟨hb,by unfold gZ at hm⊢;rw[←Ep];exact hm,fun i hi=>(h.cur i (hs.subset hi)).mod hmod (fun hh=>(h.abB (hs.subset hi)).1 (List.mem_singleton.1 hh).symm),fun i hi=>h.ids i (hs.subset hi),h.nd.sublist (hs.map _), ?_,h.few.1,by have:=hs.length_le;have:=h.few.2;omega⟩;have:=h.nf;unfold bH at this⊢;exact this.sublist (((hs.map _).cons_cons _).cons_cons _)
theorem Rv {j id cb:Nat}{c:fZ}(h:gG w ib mb most given its)(hj:its[j]?=some ⟨id,cb,c⟩):Calls Tryz.prog 76 #[.pointer (some ⟨ib,0,none⟩),.int .i64 (id:Int)] w fun y w'=>y= .returned .nilIface∧gG w' ib mb most given (its.eraseIdx j)∧Mod [mb] w w':=by
 have kP:=qd (Qs h (List.mem_of_getElem? hj))
 have hj2:(gZ its)[j]?=some (id,cb):=by unfold gZ;rw[List.getElem?_map,hj];rfl
 have hdel:=fun ty=>h.map.del (P:=Tryz.prog) (t:=135) Tryz.underlying135 Tryz.underlying3 hj2 (by rw[X9];exact h.nd) ty;have hms:=h.map.ak ((gZ its).eraseIdx j) given;have hmm:=h.map.Eo (.map (((gZ its).eraseIdx j).map nD).toArray given);obtain⟨W2,hW2⟩:∃W2,W2=setBlock w mb (.map (((gZ its).eraseIdx j).map nD).toArray given):=⟨_,rfl⟩;rw[←hW2]at hms hmm;have him:ib∉[mb]:=fun hh=>(h.abB (List.mem_of_getElem? hj)).2.2 (List.mem_singleton.1 hh);have HE:=qd (And.intro (h.erased (j:=j) (h.blk.mod hmm him) hms hmm) hmm);have c2:=h.blk.cell 2;simp only[gl]at c2 hdel;simp only[←hW2]at hdel;clear h hj hj2 hms hmm him hW2;go_in;go_wp2_with fail;refine kP.out.mono ?_;rintro y w1 ⟨rfl,rfl⟩;go_wp2;go_ret;exact⟨rfl,HE.out⟩
def It.ended (i:It):It:=⟨i.id,i.cb,⟨0,0,true⟩⟩
theorem gG.ended (h:gG w ib mb most given its)(hb:aj w2 ib 137 #[.int .i64 (most:Int),.int .i64 (given:Int),.map (some mb)])(hm:jd w2 mb given (gZ its))(hc:∀i∈its,fB w2 i.cb ⟨0,0,true⟩):gG w2 ib mb most given (its.map It.ended):=by
 have e1:(its.map It.ended).map It.cb=its.map It.cb:=by rw[List.map_map];rfl
 have e2:(its.map It.ended).map It.id=its.map It.id:=by rw[List.map_map];rfl
 refine⟨hb,by unfold gZ at hm⊢;rw[List.map_map];exact hm,fun i hi=> ?_,fun i hi=> ?_,by rw[e2];exact h.nd,by have:=h.nf;unfold bH at this⊢;rw[e1];exact this,h.few.1,by rw[List.length_map];exact h.few.2⟩
 ·obtain⟨i',hi',rfl⟩:=List.mem_map.1 hi;exact hc i' hi'
 ·obtain⟨i',hi',rfl⟩:=List.mem_map.1 hi;exact h.ids i' hi'
end
end
section
variable {I Kk M b gv ib j mb : Nat} {its : List It} {H : Nat → Nat} {a : Pool} {W0 w : World} {E : Nat → Addr} {G ids : List Nat} {gL : bF}
theorem Qu:∀q∈bH ib mb (its.eraseIdx j),q∈bH ib mb its:=fun q hq=>by
 unfold bH at hq⊢;simp only[List.mem_cons]at hq⊢;rcases hq with h|h|h
 ·exact .inl h
 ·exact .inr (.inl h)
 ·exact .inr (.inr (((List.eraseIdx_sublist its j).map It.cb).subset h))
theorem aaS {id cb:Nat}{c:fZ}(h:nV W0 E H Kk M I b G w a ids its gv gL)(hj:its[j]?=some ⟨id,cb,c⟩):Calls Tryz.prog 41 #[.pointer (some ⟨b,0,none⟩),.int .i64 (id:Int)] w fun y w'=>y= .returned .nilIface∧tC W0 E H Kk M I b G w w' a ids (its.eraseIdx j) gv gL:=by
 obtain⟨C,GC,mb,hS,rfl,zW⟩:=h;have hbk:=hS.blk.blk;unfold iw.cells at hbk;have c16:=hbk.cell 16;simp only[gl]at c16;have HO:=qd (Rv hS.ou hj);have HS:=qd hS;have HQ:=qd zW;clear hbk hS zW hj;go_in;go_wp2_with fail;refine HO.out.mono ?_;rintro y w1 ⟨rfl,hi,hm⟩;have hs:=HS.out.aaQ hi hm (fun q hq=> .inl (by unfold bH;simp at hq⊢;exact .inr (.inl hq))) (fun q hq=> .inl (Qu q hq));have HE:=qd (show tC W0 E H Kk M I b (eF b C GC mb its) w w1 a ids (its.eraseIdx j) gv gL from HQ.out▸hs.to);clear hs hi hm HO;go_wp2;go_ret;exact⟨rfl,HE.out⟩
end
end Go.Proofs.YtjfgpnapccdnlaaGreatDoor
