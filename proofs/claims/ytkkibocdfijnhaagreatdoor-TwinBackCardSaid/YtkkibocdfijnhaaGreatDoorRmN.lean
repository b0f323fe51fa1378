/- A map as one thing: its block, its core, its iterators. No statement of the claim. -/
import Derived.Test.YtkkibocdfijnhaaGreatDoorRmC
import Derived.Test.YtkkibocdfijnhaaGreatDoorSqM
import Derived.Test.YtkkibocdfijnhaaGreatDoorCoO
import Derived.Test.YtkkibocdfijnhaaGreatDoorLaneP
import Derived.Test.YtkkibocdfijnhaaGreatDoorRmI
namespace Go.Proofs.YtkkibocdfijnhaaGreatDoor
set_option maxRecDepth 100000
set_option maxHeartbeats 4000000
open Go.RowKit bV
section
variable {fG S : List Nat} {Kk ph pk pm pr : Nat} {V : World} {e : ay}
def dY (b:Nat)(C:fB)(GC:List Nat)(mb:Nat)(its:List It):List Nat:=b::(bB C.ib mb its++GC)
structure fU (W0:World)(E:Nat→Addr)(H:Nat→Nat)(K M I b:Nat)(G0:List Nat)(w0:World)(C:fB)(GC:List Nat)(mb gv:Nat)(w:World)(a:Pool)(ids:List Nat)(its:List It):Prop where
 blk:nD w b C
 cfg:C.k=(K:Int)∧C.m=(M:Int)∧C.i=(I:Int)
 core:gF W0 E H K M C.cb GC w a ids
 kL:fF w C.ib mb I gv its
 b0:W0.heap.size≤b∧∀q∈bB C.ib mb its,W0.heap.size≤q
 apart:b∉GC∧b∉bB C.ib mb its∧∀q∈bB C.ib mb its,q∉GC
 sub:∀q∈dY b C GC mb its,q∈G0∨w0.heap.size≤q
 mod:Mod G0 w0 w
 pK:W0.heap.size≤w0.heap.size
theorem aG {b:Nat}{C:fB}{GC:List Nat}{mb:Nat}{its:List It}{q:Nat}:q∈dY b C GC mb its↔q=b∨q∈bB C.ib mb its∨q∈GC:=by unfold dY;simp
section
variable {W0 : World} {E : Nat → Addr} {H : Nat → Nat} {K M I b : Nat} {G0 : List Nat} {w0 : World} {C C' : fB} {GC : List Nat} {mb gv ET : Nat} {w w' : World} {a a' : Pool} {ids aL : List Nat} {its uo : List It}
theorem fU.fM (h:fU W0 E H K M I b G0 w0 C GC mb gv w a ids its):∀q∈dY b C GC mb its,q<w.heap.size∧W0.heap.size≤q:=fun q hq=>by
 rcases aG.1 hq with rfl|hq|hq
 ·exact⟨h.blk.lt,h.b0.1⟩
 ·exact⟨h.kL.fM q hq,h.b0.2 q hq⟩
 ·exact h.core.facts.2.2.2.2.2.2.2.2.2.2.1 q hq
theorem fU.kk (h:fU W0 E H K M I b G0 w0 C GC mb gv w a ids its):1≤C.k∧C.k≤64:=by
 have:=h.core.facts.2.2.2.2.2.2.2.2.1;rw[h.cfg.1];omega
theorem fU.zo (h:fU W0 E H K M I b G0 w0 C GC mb gv w a ids its)(hm:Mod S w w')(hS:∀q∈S,q∉dY b C GC mb its∧w0.heap.size≤q):fU W0 E H K M I b G0 w0 C GC mb gv w' a ids its:=by
 have h1:∀q∈dY b C GC mb its,q∉S:=fun q hq hs=>(hS q hs).1 hq;exact⟨h.blk.mod hm (h1 b (aG.2 (.inl rfl))),h.cfg,h.core.mod hm (fun q hq=>⟨fun hg=>(hS q hq).1 (aG.2 (.inr (.inr hg))),Nat.le_trans h.pK (hS q hq).2⟩),h.kL.mod hm (fun q hq=>h1 q (aG.2 (.inr (.inl hq)))),h.b0,h.apart,h.sub,h.mod.trans hm (fun _ hk _=>hk) (fun k hk hl=>absurd (hS k hk).2 (by omega)),h.pK⟩
theorem fU.below (h:fU W0 E H K M I b G0 w0 C GC mb gv w a ids its)(hb:Below w.heap.size w w'):fU W0 E H K M I b G0 w0 C GC mb gv w' a ids its:=h.zo (Mod.of_below hb []) (by simp)
theorem fU.Dq (h:fU W0 E H K M I b G0 w0 C GC mb gv w a ids its)(hB:nD w' b C')(hm:Mod [b] w w')(hk:C'.k=C.k∧C'.m=C.m∧C'.i=C.i∧C'.cb=C.cb∧C'.ib=C.ib):fU W0 E H K M I b G0 w0 C' GC mb gv w' a ids its:=by
 obtain⟨k1,k2,k3,k4,k5⟩:=hk;refine⟨hB,by rw[k1,k2,k3];exact h.cfg,by rw[k4];exact h.core.mod hm (fun q hq=>by rw[List.mem_singleton.1 hq];exact⟨h.apart.1,h.b0.1⟩),by rw[k5];exact h.kL.mod hm (fun q hq hs=>h.apart.2.1 (List.mem_singleton.1 hs▸hq)),by rw[k5];exact h.b0,by rw[k5];exact h.apart,fun q hq=>h.sub q (by rw[aG]at hq⊢;rw[k5]at hq;exact hq),h.mod.trans hm (fun _ hk _=>hk) (fun k hk hl=> ?_),h.pK⟩;rcases h.sub b (aG.2 (.inl rfl))with h1|h1
 ·rw[List.mem_singleton.1 hk];exact h1
 ·rw[List.mem_singleton.1 hk]at hl;omega
theorem Mod.within (h:Mod G0 w0 w)(hm:Mod S w w')(hs:∀q∈S,q∈G0∨w0.heap.size≤q):Mod G0 w0 w':=h.trans hm (fun _ hk _=>hk) fun k hk hl=>(hs k hk).elim id fun h1=>absurd h1 (by omega)
theorem fU.aal (h:fU W0 E H K M I b G0 w0 C GC mb gv w a ids its)(h1:gF W0 E H K M C.cb fG w' a' aL)(h2:∀q∈fG,q∈GC∨w.heap.size≤q)(h3:Mod GC w w'):fU W0 E H K M I b G0 w0 C fG mb gv w' a' aL its:=by
 have hbl:=h.blk.lt;have hil:=h.kL.fM;refine⟨h.blk.mod h3 h.apart.1,h.cfg,h1,h.kL.mod h3 h.apart.2.2,h.b0,⟨fun hg=> ?_,h.apart.2.1,fun q hq hg=> ?_⟩,fun q hq=> ?_,h.mod.within h3 (fun q hq=>h.sub q (aG.2 (.inr (.inr hq)))),h.pK⟩
 ·rcases h2 b hg with k|k
  ·exact h.apart.1 k
  ·omega
 ·rcases h2 q hg with k|k
  ·exact h.apart.2.2 q hq k
  ·have:=hil q hq;omega
 ·rcases aG.1 hq with k|k|k
  ·exact h.sub q (aG.2 (.inl k))
  ·exact h.sub q (aG.2 (.inr (.inl k)))
  ·rcases h2 q k with k|k
   ·exact h.sub q (aG.2 (.inr (.inr k)))
   ·have:=h.mod.size;exact .inr (by omega)
theorem fU.YI (h:fU W0 E H K M I b G0 w0 C GC mb gv w a ids its)(hc:jY W0 E H K M C.cb GC w w' a' aL):∃fG,fU W0 E H K M I b G0 w0 C fG mb gv w' a' aL its∧(∀q∈fG,q∈GC∨w.heap.size≤q)∧Mod GC w w':=by
 obtain⟨fG,h1,h2,h3⟩:=hc;exact⟨fG,h.aal h1 h2 h3,h2,h3⟩
theorem fU.SI (h:fU W0 E H K M I b G0 w0 C GC mb gv w a ids its)(hi:fF w' C.ib mb I ET uo)(hm:Mod S w w')(hS:∀q∈S,q∈bB C.ib mb its∨(q∉dY b C GC mb its∧w0.heap.size≤q))(hn:∀q∈bB C.ib mb uo,q∈bB C.ib mb its∨w.heap.size≤q):fU W0 E H K M I b G0 w0 C GC mb ET w' a ids uo:=by
 have hbl:=h.blk.lt;have hcl:=h.core.facts.2.2.2.2.2.2.2.2.2.2.1;have hen:=h.core.facts.2.2.2.2.2.2.2.2.2.2.2.size;refine⟨h.blk.mod hm (fun hs=> ?_),h.cfg,h.core.mod hm (fun q hq=> ?_),hi,⟨h.b0.1,fun q hq=> ?_⟩,⟨h.apart.1,fun hq=> ?_,fun q hq hg=> ?_⟩,fun q hq=> ?_,h.mod.within hm (fun q hq=> ?_),h.pK⟩
 ·rcases hS b hs with k|k
  ·exact h.apart.2.1 k
  ·exact k.1 (aG.2 (.inl rfl))
 ·rcases hS q hq with k|k
  ·exact⟨h.apart.2.2 q k,h.b0.2 q k⟩
  ·exact⟨fun hg=>k.1 (aG.2 (.inr (.inr hg))),Nat.le_trans h.pK k.2⟩
 ·rcases hn q hq with k|k
  ·exact h.b0.2 q k
  ·omega
 ·rcases hn b hq with k|k
  ·exact h.apart.2.1 k
  ·omega
 ·rcases hn q hq with k|k
  ·exact h.apart.2.2 q k hg
  ·have:=(hcl q hg).1;omega
 ·rcases aG.1 hq with k|k|k
  ·exact h.sub q (aG.2 (.inl k))
  ·rcases hn q k with k|k
   ·exact h.sub q (aG.2 (.inr (.inl k)))
   ·have:=h.mod.size;exact .inr (by omega)
  ·exact h.sub q (aG.2 (.inr (.inr k)))
 ·rcases hS q hq with k|k
  ·exact h.sub q (aG.2 (.inr (.inl k)))
  ·exact .inr k.2
theorem fU.again (h:fU W0 E H K M I b G0 w0 C GC mb gv w a ids its):fU W0 E H K M I b (dY b C GC mb its) w C GC mb gv w a ids its:=⟨h.blk,h.cfg,h.core,h.kL,h.b0,h.apart,fun q hq=> .inl hq,Mod.refl _ _,by have:=h.core.facts.2.2.2.2.2.2.2.2.2.2.2.size;exact this⟩
theorem fU.chain {mb':Nat}(h:fU W0 E H K M I b G0 w0 C GC mb gv w a ids its)(k:fU W0 E H K M I b (dY b C GC mb its) w C' fG mb' ET w' a' aL uo):fU W0 E H K M I b G0 w0 C' fG mb' ET w' a' aL uo:=
 ⟨k.blk,k.cfg,k.core,k.kL,k.b0,k.apart,fun q hq=>(k.sub q hq).elim (fun g=>h.sub q g) (fun g=> .inr (by have:=h.mod.size;omega)),h.mod.within k.mod h.sub,h.pK⟩
end
def j6 (W0:World)(E:Nat→Addr)(H:Nat→Nat)(K M I b:Nat)(G:List Nat)(w:World)(a:Pool)(ids:List Nat)(its:List It)(gv:Nat)(fC:bC):Prop:=
 ∃(C:fB) (GC:List Nat) (mb:Nat),fU W0 E H K M I b (dY b C GC mb its) w C GC mb gv w a ids its∧G=dY b C GC mb its∧C.last=fC
def oQ (W0:World)(E:Nat→Addr)(H:Nat→Nat)(K M I b:Nat)(G:List Nat)(w w':World)(a':Pool)(aL:List Nat)(uo:List It)(ET:Nat)(jh:bC):Prop:=
 ∃G',j6 W0 E H K M I b G' w' a' aL uo ET jh∧(∀q∈G',q∈G∨w.heap.size≤q)∧Mod G w w'
section
variable {W0 : World} {E : Nat → Addr} {H : Nat → Nat} {K M I b : Nat} {G G0 : List Nat} {w0 w w' : World} {C : fB} {GC : List Nat} {mb gv ET : Nat} {a a' : Pool} {ids aL : List Nat} {its uo : List It} {fC jh : bC}
theorem fU.to (h:fU W0 E H K M I b G w C GC mb gv w' a' aL uo):oQ W0 E H K M I b G w w' a' aL uo gv C.last:=⟨_,⟨C,GC,mb,h.again,rfl,rfl⟩,h.sub,h.mod⟩
theorem j6.mod (h:j6 W0 E H K M I b G w a ids its gv fC)(hm:Mod S w w')(hS:∀q∈S,q∉G∧W0.heap.size≤q):j6 W0 E H K M I b G w' a ids its gv fC:=by
 obtain⟨C,GC,mb,h1,rfl,h2⟩:=h;have k1:∀q∈dY b C GC mb its,q∉S:=fun q hq hs=>(hS q hs).1 hq;have h3:fU W0 E H K M I b (dY b C GC mb its) w' C GC mb gv w' a ids its:=⟨h1.blk.mod hm (k1 b (aG.2 (.inl rfl))),h1.cfg,h1.core.mod hm (fun q hq=>⟨fun hg=>(hS q hq).1 (aG.2 (.inr (.inr hg))),(hS q hq).2⟩),h1.kL.mod hm (fun q hq=>k1 q (aG.2 (.inr (.inl hq)))),h1.b0,h1.apart,fun q hq=> .inl hq,Mod.refl _ _,by have:=h1.pK;have:=hm.size;omega⟩;exact⟨C,GC,mb,h3,rfl,h2⟩
theorem j6.below (h:j6 W0 E H K M I b G w a ids its gv fC)(hb:Below w.heap.size w w'):j6 W0 E H K M I b G w' a ids its gv fC:=h.mod (Mod.of_below hb []) (by simp)
theorem j6.facts (h:j6 W0 E H K M I b G w a ids its gv fC):(∀q∈G,q<w.heap.size∧W0.heap.size≤q)∧(a.ents.map ay.key).Nodup∧a.ents.length≤M∧M≤192∧a.Ns.length≤32∧1≤a.Ns.length∧(its.map It.id).Nodup∧its.length≤I∧I≤8∧Env W0 E w:=by
 obtain⟨C,GC,mb,h1,rfl,h2⟩:=h;obtain⟨_,_,f3,f4,_,_,f7,f8,_,f10,_,f12⟩:=h1.core.facts;exact⟨h1.fM,f10,f7,f8,f3,f4,h1.kL.nd,h1.kL.few.2,h1.kL.few.1,f12⟩
theorem oQ.next (h:oQ W0 E H K M I b G w w' a' aL uo ET jh){w2:World}(hb:Below w'.heap.size w' w2):oQ W0 E H K M I b G w w2 a' aL uo ET jh:=by
 obtain⟨G',h1,h2,h3⟩:=h;exact⟨G',h1.below hb,h2,h3.then (Mod.of_below hb _)⟩
theorem acD (h:j6 W0 E H K M I b G w a ids its gv fC):Calls Tryz.prog 32 #[pQ b] w fun y w'=>y= .returned (nI a.ents.length)∧w=w':=by
 obtain⟨C,GC,mb,hS,rfl,mY⟩:=h;have hbk:=hS.blk.blk;unfold fB.cells at hbk;have c3:=hbk.cell 3;simp only[gl]at c3;have HL:=qd (acA hS.core);unfold bg at HL;clear hbk hS mY;go_in;go_wp2_with fail;refine HL.out.mono ?_;rintro y w1 ⟨rfl,rfl⟩;go_wp2;go_ret;exact⟨rfl,rfl⟩
theorem aa9 (h:j6 W0 E H K M I b G w a ids its gv fC)(hlt:its.length<I)(hg:gv≤100000):Calls Tryz.prog 34 #[pQ b] w fun y w'=>∃cb,y= .returned (.tuple #[.int .i64 ((gv+1:Nat):Int),.nilIface])∧oQ W0 E H K M I b G w w' a ids (its++[⟨gv+1,cb,⟨0,0,false⟩⟩]) (gv+1) fC:=by
 obtain⟨C,GC,mb,hS,rfl,mY⟩:=h;have hbk:=hS.blk.blk;unfold fB.cells at hbk;have c16:=hbk.cell 16;simp only[gl]at c16;have hop:=SH hS.kL hlt hg;have HO:=qd hop;have HS:=qd hS;have HQ:=qd mY;clear hbk hS hop mY;go_in;go_wp2_with fail;refine HO.out.mono ?_;rintro y w1 ⟨cb,hcb,rfl,hi,hm⟩
 have hs:=HS.out.SI hi hm (fun q hq=> .inl (by unfold bB;simp at hq⊢;rcases hq with k|k;exact .inl k;exact .inr (.inl k))) (fun q hq=>by
  unfold bB at hq⊢;simp only[List.map_append,List.mem_cons,List.mem_append,List.map_cons,List.map_nil,List.not_mem_nil,or_false]at hq⊢;rcases hq with k|k|k|k
  ·exact .inl (.inl k)
  ·exact .inl (.inr (.inl k))
  ·exact .inl (.inr (.inr k))
  ·exact .inr (k▸hcb))
 have HE:=qd (show oQ W0 E H K M I b (dY b C GC mb its) w w1 a ids (its++[⟨gv+1,cb,⟨0,0,false⟩⟩]) (gv+1) fC from HQ.out▸hs.to);clear hs hi hm hcb HO;go_wp2;refine bodyPost_ret (v:= .tuple #[.int .i64 ((gv:Int)+1),.nilIface]) (by simp[results,Tryz.results34,go_sem]) rfl ⟨cb,rfl,HE.out⟩
end
def Jt (W0:World)(E:Nat→Addr)(H:Nat→Nat)(K M I b:Nat)(G0:List Nat)(w0:World)(C:fB)(GC:List Nat)(mb gv:Nat)(its:List It)(R:Pool→List Nat→Prop)(pr:Nat)(t:TypeId)(v:Value)(V w':World):Prop:=
 ∃fG a' aL,fU W0 E H K M I b G0 w0 C fG mb gv w' a' aL its∧R a' aL∧aj w' pr t #[v]∧(∀q∈fG,q∈GC∨V.heap.size≤q)∧Mod (pr::GC) V w'
theorem lI (E:Nat→Addr)(k:Nat):dK E k= .nilIface∨∃A,dK E k= .iface 318 (.pointer (some A)):=by
 unfold dK;split
 ·exact .inl rfl
 ·exact .inr ⟨_,rfl⟩
theorem abb {W0:World}{E:Nat→Addr}{H:Nat→Nat}{M I b:Nat}{G0:List Nat}{w0:World}{C:fB}{GC:List Nat}{mb gv:Nat}{a:Pool}{ids:List Nat}{its:List It}{pv:Nat}(hS:fU W0 E H Kk M I b G0 w0 C GC mb gv V a ids its)(hm:aj V pm 52 #[pQ b])(hk:aj V pk 35 #[nU e.key])(hv:aj V pv 35 #[nU e.val])(hh:aj V ph 35 #[nU e.hash])(hr:aj V pr 27 #[.nilIface])(hne:pr∉dY b C GC mb its∧w0.heap.size≤pr)(he:jK H e):Calls Tryz.prog 56 #[pQ pm,pQ pk,pQ pv,pQ ph,pQ pr] V fun y w'=>y= .returned undef∧Jt W0 E H Kk M I b G0 w0 C GC mb gv its (Dp H Kk M a ids e) pr 27 (dK E (uj M a.ents e.key)) V w':=by
 have hbk:=hS.blk.blk;unfold fB.cells at hbk;have c3:=hbk.cell 3;simp only[gl]at c3;have xm:=hm.cell 0;have xk:=hk.cell 0;have xv:=hv.cell 0;have xh:=hh.cell 0;simp only[List.getElem?_toArray,List.getElem?_cons_zero]at xm xk xv xh;have HS:=qd hS;have jw:=qd hr;have iW:=qd hne;have HE:=qd he;have hdr:=(Below.refl V.heap.size V).drew;have hcl:=aa7 (hS.core.below hdr) e he;unfold bg at hcl;obtain⟨ev,hev⟩:∃ev,ev=dK E (uj M a.ents e.key):=⟨_,rfl⟩;have hone:ev= .nilIface∨∃A,ev= .iface 318 (.pointer (some A)):=hev▸lI E _;rw[←hev]at hcl⊢;have UL:=qd hone;clear hone;have yE:=qd hcl;clear hcl hev hbk hS hr hne he hdr hm hk hv hh;go_in;refine rT (fun(w':World)=>w'.cell? ⟨pm,0,none⟩=some (pQ b)∧w'.cell? ⟨pk,0,none⟩=some (nU e.key)∧w'.cell? ⟨pv,0,none⟩=some (nU e.val)∧w'.cell? ⟨ph,0,none⟩=some (nU e.hash)∧w'.cell? ⟨b,3,none⟩=some (pQ C.cb)) [7,8] ?_;have hHeld:=(⟨xm,xk,xv,xh,c3⟩:_∧_∧_∧_∧_);refine vT 4 rfl ?_;refine vT 5 rfl ?_;refine vT 6 rfl ?_;refine nT 0 rfl fun K hK=> ?_;go_simp;refine kO hK ?_;clear hK K;refine vW 1 rfl ?_;refine vW 2 rfl ?_;refine vT 3 rfl ?_;refine nT 7 rfl fun K hK=> ?_;go_simp;refine yE.out.mono ?_;rintro y V1 ⟨rfl,a',aL,hto,hpm⟩;obtain⟨fG,hS1,hsub,hmod⟩:=(HS.out.below (Below.refl V.heap.size V).drew).YI hto;have iH:=qd hS1;have xX:=qd hpm;have Bc:Mod GC V V1:=(Mod.of_below (Below.refl V.heap.size V).drew GC).then hmod;have yg:=qd (show∀q∈fG,q∈GC∨V.heap.size≤q from hsub);have hpl:=jw.out.lt
 have hr1:=(jw.out.mod Bc (fun hg=>iW.out.1 (aG.2 (.inr (.inr hg)))));have HR1:=qd hr1;have HMo:=qd Bc;have jl:=qd hpl;clear hto hpm hS1 hsub hmod Bc hr1 hpl yE;go_wp2_with fail;refine kO hK ?_;clear hK K;refine nT 8 rfl fun K hK=> ?_;have r0:=HR1.out.cell 0;simp only[List.getElem?_toArray,List.getElem?_cons_zero]at r0;have rf:=HR1.out.frozen 0;have hn2:=HR1.out.ak 0 (ev);have hm2:=(Mod.refl [pr] V1).sl 0 (ev);simp only[List.setIfInBounds_toArray,List.set_cons_zero]at hn2
 have hfr:∀q∈[pr],q∉dY b C fG mb its∧w0.heap.size≤q:=fun q hq=>by
  rw[List.mem_singleton.1 hq];refine⟨fun hg=> ?_,iW.out.2⟩;rcases aG.1 hg with k|k|k
  ·exact iW.out.1 (aG.2 (.inl k))
  ·exact iW.out.1 (aG.2 (.inr (.inl k)))
  ·rcases yg.out pr k with k|k
   ·exact iW.out.1 (aG.2 (.inr (.inr k)))
   ·have:=jl.out;omega
 have HF:=qd (show Jt W0 E H Kk M I b G0 w0 C GC mb gv its (Dp H Kk M a ids e) pr 27 (ev) V (V1.setCell ⟨pr,0,none⟩ (ev))from⟨fG,a',aL,iH.out.zo hm2 hfr,xX.out,hn2,yg.out,(HMo.out.more (fun q hq=>List.mem_cons_of_mem _ hq)).then (hm2.more (fun q hq=>by rw[List.mem_singleton.1 hq];simp))⟩);clear hn2 hm2 hfr;rcases UL.out with hv|⟨A,hv⟩
 all_goals
  subst hv;go_simp;refine kO hK ?_;clear hK K;refine aU (by kernel_rfl) ?_ _;go_wp2;go_end0;exact⟨rfl,HF.out⟩
theorem abd {W0:World}{E:Nat→Addr}{H:Nat→Nat}{M I b:Nat}{G0:List Nat}{w0:World}{C:fB}{GC:List Nat}{mb gv:Nat}{a:Pool}{ids:List Nat}{its:List It}(hS:fU W0 E H Kk M I b G0 w0 C GC mb gv V a ids its)(hm:aj V pm 52 #[pQ b])(hk:aj V pk 35 #[nU e.key])(hh:aj V ph 35 #[nU e.hash])(hr:aj V pr 4 #[.bool false])(hne:pr∉dY b C GC mb its∧w0.heap.size≤pr)(he:jK H e):Calls Tryz.prog 59 #[pQ pm,pQ pk,pQ ph,pQ pr] V fun y w'=>y= .returned undef∧Jt W0 E H Kk M I b G0 w0 C GC mb gv its (fun a' _=>a'.ents.Perm (rest a.ents e.key)) pr 4 (.bool (look a.ents e.key).isSome) V w':=by
 have hbk:=hS.blk.blk;unfold fB.cells at hbk;have c3:=hbk.cell 3;simp only[gl]at c3;have xm:=hm.cell 0;have xk:=hk.cell 0;have xh:=hh.cell 0;simp only[List.getElem?_toArray,List.getElem?_cons_zero]at xm xk xh;have HS:=qd hS;have jw:=qd hr;have iW:=qd hne;have HE:=qd he;have hdr:=(Below.refl V.heap.size V).drew;have h64:=he.h64;have hcl:=acB (hS.core.below hdr) e.key (by rw[←he.hash];exact h64);rw[←he.hash]at hcl;unfold bg FT at hcl;obtain⟨gv0,acE⟩:∃g:Int,g=(((look a.ents e.key).getD ⟨0,0,0⟩).val:Int):=⟨_,rfl⟩;obtain⟨iv,hiv⟩:∃i,i=(look a.ents e.key).isSome:=⟨_,rfl⟩;rw[←acE,←hiv]at hcl;rw[←hiv];have yE:=qd hcl;clear hcl acE hiv h64 hbk hS hr hne he hdr hm hk hh;go_in;refine rT (fun(w':World)=>w'.cell? ⟨pm,0,none⟩=some (pQ b)∧w'.cell? ⟨pk,0,none⟩=some (nU e.key)∧w'.cell? ⟨ph,0,none⟩=some (nU e.hash)∧w'.cell? ⟨b,3,none⟩=some (pQ C.cb)) [6,10] ?_;have hHeld:=(⟨xm,xk,xh,c3⟩:_∧_∧_∧_);refine vT 4 rfl ?_;refine vT 5 rfl ?_;refine nT 0 rfl fun K hK=> ?_;go_simp;refine kO hK ?_;clear hK K;refine vW 1 rfl ?_;refine vW 2 rfl ?_;refine vT 3 rfl ?_;refine nT 6 rfl fun K hK=> ?_;go_simp;refine yE.out.mono ?_;rintro y V1 ⟨rfl,a',aL,hto,hpm⟩;obtain⟨fG,hS1,hsub,hmod⟩:=(HS.out.below (Below.refl V.heap.size V).drew).YI hto;have iH:=qd hS1;have xX:=qd hpm;have Bc:Mod GC V V1:=(Mod.of_below (Below.refl V.heap.size V).drew GC).then hmod;have yg:=qd (show∀q∈fG,q∈GC∨V.heap.size≤q from hsub);have hpl:=jw.out.lt;have hr1:=(jw.out.mod Bc (fun hg=>iW.out.1 (aG.2 (.inr (.inr hg)))));have HR1:=qd hr1
 have HMo:=qd Bc;have jl:=qd hpl;clear hto hpm hS1 hsub hmod Bc hr1 hpl yE;go_wp2_with fail;refine kO hK ?_;clear hK K;refine vL 7 rfl ?_;refine vL 8 rfl ?_;refine vL 9 rfl ?_;refine nT 10 rfl fun K hK=> ?_;have r0:=HR1.out.cell 0;simp only[List.getElem?_toArray,List.getElem?_cons_zero]at r0;have rf:=HR1.out.frozen 0;have hn2:=HR1.out.ak 0 (.bool iv);have hm2:=(Mod.refl [pr] V1).sl 0 (.bool iv);simp only[List.setIfInBounds_toArray,List.set_cons_zero]at hn2
 have hfr:∀q∈[pr],q∉dY b C fG mb its∧w0.heap.size≤q:=fun q hq=>by
  rw[List.mem_singleton.1 hq];refine⟨fun hg=> ?_,iW.out.2⟩;rcases aG.1 hg with k|k|k
  ·exact iW.out.1 (aG.2 (.inl k))
  ·exact iW.out.1 (aG.2 (.inr (.inl k)))
  ·rcases yg.out pr k with k|k
   ·exact iW.out.1 (aG.2 (.inr (.inr k)))
   ·have:=jl.out;omega
 have HF:=qd (show Jt W0 E H Kk M I b G0 w0 C GC mb gv its (fun a' _=>a'.ents.Perm (rest a.ents e.key)) pr 4 (.bool iv) V (V1.setCell ⟨pr,0,none⟩ (.bool iv))from⟨fG,a',aL,iH.out.zo hm2 hfr,xX.out,hn2,yg.out,(HMo.out.more (fun q hq=>List.mem_cons_of_mem _ hq)).then (hm2.more (fun q hq=>by rw[List.mem_singleton.1 hq];simp))⟩);clear hn2 hm2 hfr;go_simp;refine kO hK ?_;clear hK K;refine aU (by kernel_rfl) ?_ _;go_wp2;go_end0;exact⟨rfl,HF.out⟩
end
section
section
variable {W0 : World} {E : Nat → Addr} {H : Nat → Nat} {Kk M I b : Nat} {G0 : List Nat} {w0 w w' : World} {C : fB} {GC : List Nat} {mb gv : Nat} {a : Pool} {ids : List Nat} {its : List It}
theorem fU.wrote (h:fU W0 E H Kk M I b G0 w0 C GC mb gv w a ids its)(hw:Wrote w b C w'):∃C',fU W0 E H Kk M I b G0 w0 C' GC mb gv w' a ids its∧Mod [b] w w'∧C'.cb=C.cb∧C'.ib=C.ib∧C'.lf≤C.lf:=by
 obtain⟨lf,gn,ma,ml,last,all,h1,h2,h3⟩:=hw;exact⟨_,h.Dq h2 h3 ⟨rfl,rfl,rfl,rfl,rfl⟩,h3,rfl,rfl,h1⟩
end
theorem acF {W0:World}{E:Nat→Addr}{H:Nat→Nat}{Kk M I b:Nat}{G:List Nat}{w:World}{a:Pool}{ids:List Nat}{its:List It}{gv:Nat}{fC:bC}(h:j6 W0 E H Kk M I b G w a ids its gv fC)(e:ay)(he:jK H e):Calls Tryz.prog 30 #[pQ b,nU e.key,nU e.val,nU e.hash] w fun y w'=>y= .returned (dK E (uj M a.ents e.key))∧∃a' aL jh,oQ W0 E H Kk M I b G w w' a' aL its gv jh∧Dp H Kk M a ids e a' aL:=by
 obtain⟨C,GC,mb,hS,rfl,mY⟩:=h;obtain⟨W,hW,hB,hBm,VN,hBv,wZ,Dr⟩:=qX5 w 52 #[pQ b] 35 #[nU e.key] 35 #[nU e.val] 35 #[nU e.hash] 27 #[.nilIface];have hlt:=fun q hq=>(hS.fM q hq).1;have iW:=qd (show∀q,w.heap.size≤q→q∉dY b C GC mb its from fun q hq hg=>by have:=hlt q hg;omega);have HS:=qd (hS.below hB);have hsz:=hB.size;have EL:=qd hBm;have VO:=qd VN;have HBv:=qd hBv;have VP:=qd wZ;have vY:=qd Dr;have Z0:=Dr.lt;have HW:=qd hW;have HE:=qd he;clear hW hB hS hlt hBm VN hBv wZ Dr;have om:∀(fn:Fn) (first cap:Array Value) (w:World),(Instr.makeFunc fn first cap).run Tryz.prog w= .ok (.func fn first cap) w:=fun _ _ _ _=>rfl;have oU:=(Below.refl W.heap.size W).alloc (Nat.le_refl _) (.cells #[.nilIface] 27)
 have tC:=qd (Ba (S:=(w.heap.size+1+1+1+1)::GC) (K:=fun w1=>Jt W0 E H Kk M I b (dY b C GC mb its) w C GC mb gv its (Dp H Kk M a ids e) (w.heap.size+1+1+1+1) 27 (dK E (uj M a.ents e.key)) (W.alloc (.cells #[.nilIface] 27)) w1) 56 #[pQ w.heap.size,.pointer (some ⟨(w.heap.size+1),0,none⟩),.pointer (some ⟨(w.heap.size+1+1),0,none⟩),.pointer (some ⟨(w.heap.size+1+1+1),0,none⟩),.pointer (some ⟨(w.heap.size+1+1+1+1),0,none⟩)] W (fun V=>enters_of Tryz.func56 (by kernel_rfl) rfl _ V)
  (fun hg=>by
   rcases List.mem_cons.1 hg with k|k
   ·omega
   ·exact iW.out _ (by omega) (aG.2 (.inr (.inr k))))
  ((abb (HS.out.below oU) (EL.out.mod (Mod.of_below oU []) (by simp)) (VO.out.mod (Mod.of_below oU []) (by simp)) (HBv.out.mod (Mod.of_below oU []) (by simp)) (VP.out.mod (Mod.of_below oU []) (by simp)) (vY.out.mod (Mod.of_below oU []) (by simp)) ⟨iW.out _ (by omega),by omega⟩ HE.out).mono (fun y w1 hh=>⟨hh.1,(by obtain⟨_,_,_,_,_,_,_,q⟩:=hh.2;exact q),hh.2⟩)))
 have OD:=qd oU;clear oU;go_in;go_upto_region 2 with fail;rw[←HW.out];go_wp2_with fail;refine tC.out.mono ?_;rintro y w1 ⟨rfl,hm1,fG,a',aL,hS1,hpm,hr1,hsu,hm2⟩;have HS:=qd hS1;have xX:=qd hpm;have HR:=qd hr1
 have hx1:=(EL.out.mod (Mod.of_below OD.out []) (by simp)).mod hm1 (fun hg=>by
  rcases List.mem_cons.1 hg with k|k
  ·omega
  ·exact iW.out _ (Nat.le_refl _) (aG.2 (.inr (.inr k))))
 have HX:=qd hx1;have BM:=qd (show(w.heap.size+1+1+1+1)∉[b]from fun hg=>iW.out _ (by omega) (aG.2 (.inl (List.mem_singleton.1 hg))));clear hm1 hS1 hpm hr1 hsu hm2 hx1 tC EL VO HBv VP vY OD
 cases hfu:sw M a.ents e.key with
 |false=>
  have hpc:uj M a.ents e.key=0:=by unfold uj;rw[hfu];rfl
  rw[hpc]at HR;have VG:=qd hpc;clear hpc;rw[TP]at HR;have r0:=HR.out.cell 0;simp only[List.getElem?_toArray,List.getElem?_cons_zero]at r0;go_upto_region 8 with fail;clear r0;obtain⟨cc,hcc⟩:=HS.out.core.c_;have hbk:=HS.out.blk.blk;unfold fB.cells at hbk;have c3:=hbk.cell 3;simp only[gl]at c3;have x0:=HX.out.cell 0;simp only[List.getElem?_toArray,List.getElem?_cons_zero]at x0;have gB:=qd (Af (hcc.below (Below.refl w1.heap.size w1).drew));unfold mH at gB;clear hbk hcc;refine rT (fun(w':World)=>w'.cell? ⟨w.heap.size,0,none⟩=some (pQ b)∧w'.cell? ⟨b,3,none⟩=some (pQ C.cb)) [7] ?_;have hHeld:=(⟨x0,c3⟩:_∧_);refine vT 0 rfl ?_;refine nT 1 rfl fun K hK=> ?_;go_simp;refine kO hK ?_;clear hK K;refine vW 2 rfl ?_;refine vW 3 rfl ?_;refine nT 4 rfl fun K hK=> ?_;go_simp;refine kO hK ?_;clear hK K;refine nT 5 rfl fun K hK=> ?_;go_simp;refine(sF _ _).mono ?_;rintro y V1 ⟨rfl,rfl⟩;go_wp2_with fail;have hHeld:=(⟨x0,c3⟩:_∧_);refine kO hK ?_;clear hK K;refine nT 6 rfl fun K hK=> ?_;go_simp;refine(gB.out).mono ?_;rintro y V2 ⟨rfl,hb⟩;replace hb:Below w1.heap.size w1 V2:=bL hb (Below.refl _ _).drew;replace HS:=qd (HS.out.below hb);replace x0:=aA hb x0;replace c3:=aA hb c3;clear hb gB;go_wp2_with fail;have hHeld:=(⟨x0,c3⟩:_∧_);refine kO hK ?_;clear hK K;refine nT 7 rfl fun K hK=> ?_;go_simp;have kr:=qd (show Calls Tryz.prog 58 #[pQ b,.agg #[.int .i64 cc.p,.int .i64 cc.v,.int .i64 cc.u]] V2 _ from FU HS.out.blk HS.out.kk cc);refine(kr.out).mono ?_;rintro y V3 ⟨rfl,hwr⟩
  obtain⟨C3,KR,q3,YJ,YK,YL⟩:=HS.out.wrote hwr;have jW:=qd KR;clear KR hwr q3 YJ YK YL kr HS x0 c3;go_wp2_with fail;refine kO hK ?_;clear hK K;refine aU (by kernel_rfl) ?_ _;go_wp2;go_ret;exact⟨by rw[VG.out];rfl,a',aL,_,jW.out.to,xX.out⟩
 |true=>
  have hpc:uj M a.ents e.key=2:=by unfold uj;rw[hfu];rfl
  rw[hpc]at HR;have VG:=qd hpc;clear hpc;rw[fI E (by omega:1≤2)]at HR;have r0:=HR.out.cell 0;simp only[List.getElem?_toArray,List.getElem?_cons_zero]at r0;go_upto_region 6 with fail;clear r0;obtain⟨cc,hcc⟩:=HS.out.core.c_;have hbk:=HS.out.blk.blk;unfold fB.cells at hbk;have c3:=hbk.cell 3;simp only[gl]at c3;have x0:=HX.out.cell 0;simp only[List.getElem?_toArray,List.getElem?_cons_zero]at x0;have gB:=qd (Af (hcc.below (Below.refl w1.heap.size w1).drew));unfold mH at gB;clear hbk hcc;refine rT (fun(w':World)=>w'.cell? ⟨w.heap.size,0,none⟩=some (pQ b)∧w'.cell? ⟨b,3,none⟩=some (pQ C.cb)) [7] ?_;have hHeld:=(⟨x0,c3⟩:_∧_);refine vT 0 rfl ?_;refine nT 1 rfl fun K hK=> ?_;go_simp;refine kO hK ?_;clear hK K;refine vW 2 rfl ?_;refine vW 3 rfl ?_;refine nT 4 rfl fun K hK=> ?_;go_simp;refine kO hK ?_;clear hK K;refine nT 5 rfl fun K hK=> ?_;go_simp;refine(sF _ _).mono ?_;rintro y V1 ⟨rfl,rfl⟩;go_wp2_with fail;have hHeld:=(⟨x0,c3⟩:_∧_);refine kO hK ?_;clear hK K;refine nT 6 rfl fun K hK=> ?_;go_simp;refine(gB.out).mono ?_;rintro y V2 ⟨rfl,hb⟩;replace hb:Below w1.heap.size w1 V2:=bL hb (Below.refl _ _).drew;replace HS:=qd (HS.out.below hb);replace HR:=qB hb HR;replace x0:=aA hb x0;replace c3:=aA hb c3;clear hb gB;go_wp2_with fail;have hHeld:=(⟨x0,c3⟩:_∧_);refine kO hK ?_;clear hK K;refine nT 7 rfl fun K hK=> ?_;go_simp;have kr:=qd (show Calls Tryz.prog 39 #[pQ b,.agg #[.int .i64 cc.p,.int .i64 cc.v,.int .i64 cc.u]] V2 _ from um HS.out.blk cc)
  refine(kr.out).mono ?_;rintro y V3 ⟨rfl,hwr,q3⟩;have jW:=qd (HS.out.Dq hwr q3 ⟨rfl,rfl,rfl,rfl,rfl⟩);replace HR:=qd (HR.out.mod q3 BM.out);clear hwr q3 kr HS x0 c3;go_wp2_with fail;refine kO hK ?_;clear hK K;refine aU (by kernel_rfl) ?_ _;have r0:=HR.out.cell 0;simp only[List.getElem?_toArray,List.getElem?_cons_zero]at r0;go_wp2;go_ret;exact⟨by rw[VG.out,fI E (by omega:1≤2)];rfl,a',aL,_,jW.out.to,xX.out⟩
theorem VQ {W0:World}{E:Nat→Addr}{H:Nat→Nat}{Kk M I b:Nat}{G:List Nat}{w:World}{a:Pool}{ids:List Nat}{its:List It}{gv:Nat}{fC:bC}(h:j6 W0 E H Kk M I b G w a ids its gv fC)(e:ay)(he:jK H e):Calls Tryz.prog 31 #[pQ b,nU e.key,nU e.hash] w fun y w'=>y= .returned (.bool (look a.ents e.key).isSome)∧∃a' aL jh,oQ W0 E H Kk M I b G w w' a' aL its gv jh∧a'.ents.Perm (rest a.ents e.key):=by
 obtain⟨iv,hiv⟩:∃i,i=(look a.ents e.key).isSome:=⟨_,rfl⟩;rw[←hiv];have HIv:=qd hiv;clear hiv;obtain⟨C,GC,mb,hS,rfl,mY⟩:=h;obtain⟨W,hW,hB,hBm,VN,wZ,Dr⟩:=qX4 w 52 #[pQ b] 35 #[nU e.key] 35 #[nU e.hash] 4 #[.bool false];have hlt:=fun q hq=>(hS.fM q hq).1;have iW:=qd (show∀q,w.heap.size≤q→q∉dY b C GC mb its from fun q hq hg=>by have:=hlt q hg;omega);have HS:=qd (hS.below hB);have hsz:=hB.size;have EL:=qd hBm;have VO:=qd VN;have VP:=qd wZ;have vY:=qd Dr;have Z0:=Dr.lt;have HW:=qd hW;have HE:=qd he;clear hW hB hS hlt hBm VN wZ Dr;have om:∀(fn:Fn) (first cap:Array Value) (w:World),(Instr.makeFunc fn first cap).run Tryz.prog w= .ok (.func fn first cap) w:=fun _ _ _ _=>rfl;have oU:=(Below.refl W.heap.size W).alloc (Nat.le_refl _) (.cells #[.nilIface] 27)
 have tC:=qd (Ba (S:=(w.heap.size+1+1+1)::GC) (K:=fun w1=>Jt W0 E H Kk M I b (dY b C GC mb its) w C GC mb gv its (fun a' _=>a'.ents.Perm (rest a.ents e.key)) (w.heap.size+1+1+1) 4 (.bool (look a.ents e.key).isSome) (W.alloc (.cells #[.nilIface] 27)) w1) 59 #[pQ w.heap.size,.pointer (some ⟨(w.heap.size+1),0,none⟩),.pointer (some ⟨(w.heap.size+1+1),0,none⟩),.pointer (some ⟨(w.heap.size+1+1+1),0,none⟩)] W (fun V=>enters_of Tryz.func59 (by kernel_rfl) rfl _ V)
  (fun hg=>by
   rcases List.mem_cons.1 hg with k|k
   ·omega
   ·exact iW.out _ (by omega) (aG.2 (.inr (.inr k))))
  ((abd (HS.out.below oU) (EL.out.mod (Mod.of_below oU []) (by simp)) (VO.out.mod (Mod.of_below oU []) (by simp)) (VP.out.mod (Mod.of_below oU []) (by simp)) (vY.out.mod (Mod.of_below oU []) (by simp)) ⟨iW.out _ (by omega),by omega⟩ HE.out).mono (fun y w1 hh=>⟨hh.1,(by obtain⟨_,_,_,_,_,_,_,q⟩:=hh.2;exact q),hh.2⟩)))
 have OD:=qd oU;clear oU;go_in;go_upto_region 2 with fail;rw[←HW.out];go_wp2_with fail;refine tC.out.mono ?_;rintro y w1 ⟨rfl,hm1,fG,a',aL,hS1,hpm,hr1,hsu,hm2⟩;have HS:=qd hS1;have xX:=qd hpm;have HR:=qd hr1
 have hx1:=(EL.out.mod (Mod.of_below OD.out []) (by simp)).mod hm1 (fun hg=>by
  rcases List.mem_cons.1 hg with k|k
  ·omega
  ·exact iW.out _ (Nat.le_refl _) (aG.2 (.inr (.inr k))))
 have HX:=qd hx1;have BM:=qd (show(w.heap.size+1+1+1)∉[b]from fun hg=>iW.out _ (by omega) (aG.2 (.inl (List.mem_singleton.1 hg))));clear hm1 hS1 hpm hr1 hsu hm2 hx1 tC EL VO VP vY OD;rw[←HIv.out]at HR;go_upto_region 3 with fail;obtain⟨cc,hcc⟩:=HS.out.core.c_;have hbk:=HS.out.blk.blk;unfold fB.cells at hbk;have c3:=hbk.cell 3;simp only[gl]at c3;have x0:=HX.out.cell 0;simp only[List.getElem?_toArray,List.getElem?_cons_zero]at x0;have gB:=qd (Af (hcc.below (Below.refl w1.heap.size w1).drew));unfold mH at gB;clear hbk hcc;refine rT (fun(w':World)=>w'.cell? ⟨w.heap.size,0,none⟩=some (pQ b)∧w'.cell? ⟨b,3,none⟩=some (pQ C.cb)) [7] ?_;have hHeld:=(⟨x0,c3⟩:_∧_);refine vT 0 rfl ?_;refine nT 1 rfl fun K hK=> ?_;go_simp;refine kO hK ?_;clear hK K;refine vW 2 rfl ?_;refine vW 3 rfl ?_;refine nT 4 rfl fun K hK=> ?_;go_simp;refine kO hK ?_;clear hK K;refine nT 5 rfl fun K hK=> ?_;go_simp;refine(sF _ _).mono ?_;rintro y V1 ⟨rfl,rfl⟩;go_wp2_with fail;have hHeld:=(⟨x0,c3⟩:_∧_);refine kO hK ?_;clear hK K;refine nT 6 rfl fun K hK=> ?_;go_simp;refine(gB.out).mono ?_;rintro y V2 ⟨rfl,hb⟩;replace hb:Below w1.heap.size w1 V2:=bL hb (Below.refl _ _).drew;replace HS:=qd (HS.out.below hb);replace HR:=qB hb HR;replace x0:=aA hb x0;replace c3:=aA hb c3;clear hb gB;go_wp2_with fail;have hHeld:=(⟨x0,c3⟩:_∧_);refine kO hK ?_;clear hK K;refine nT 7 rfl fun K hK=> ?_;go_simp
 have kr:=qd (show Calls Tryz.prog 58 #[pQ b,.agg #[.int .i64 cc.p,.int .i64 cc.v,.int .i64 cc.u]] V2 _ from FU HS.out.blk HS.out.kk cc);refine(kr.out).mono ?_;rintro y V3 ⟨rfl,hwr⟩;obtain⟨C3,KR,q3,YJ,YK,YL⟩:=HS.out.wrote hwr;have jW:=qd KR;replace HR:=qd (HR.out.mod q3 BM.out);clear KR hwr q3 YJ YK YL kr HS x0 c3;go_wp2_with fail;refine kO hK ?_;clear hK K;refine aU (by kernel_rfl) ?_ _;have r0:=HR.out.cell 0;simp only[List.getElem?_toArray,List.getElem?_cons_zero]at r0;go_wp2;go_ret;exact⟨rfl,a',aL,_,jW.out.to,xX.out⟩
end
section
variable {W0 w : World} {E : Nat → Addr}
theorem acG (H:Nat→Nat)(hE:Env W0 E w)(k m i:Int)(hcf:jM k m i=true)(K M I:Nat)(hkm:(1≤K∧K≤64)∧(1≤M∧M≤192)∧k=(K:Int)∧m=(M:Int)∧i=(I:Int))(Gt:1≤I∧I≤8):Calls Tryz.prog 15 #[fZ k m i] w fun y w'=>∃b G,y= .returned (.tuple #[pQ b,.nilIface])∧j6 W0 E H K M I b G w' mE [] [] 0 ⟨0,0,0⟩∧(∀q∈G,w.heap.size≤q)∧Below w.heap.size w w':=by
 obtain⟨hK,hM,rfl,rfl,rfl⟩:=hkm;have HI:=qd (And.intro hK (And.intro hM Gt));have hB0:=aj.new w 23 #[nI K,nI M,nI I];have hb0:=(Below.refl w.heap.size w).alloc (Nat.le_refl _) (.cells #[nI K,nI M,nI I] 23);obtain⟨W,hW⟩:∃W,W=w.alloc (.cells #[nI K,nI M,nI I] 23):=⟨_,rfl⟩;rw[←hW]at hB0 hb0;have hnb:=Ow H (hE.next hb0) (K:Int) (M:Int) (I:Int) hcf K M I ⟨hK,hM,rfl,rfl,rfl⟩;have c:=hB0.c3;unfold fZ at hnb⊢;have jL:=qd hnb;have HX:=qd hB0;have HB:=qd hb0;have HW:=qd hW;have HE:=qd hE;clear hnb hB0 hb0 hW hK hM Gt hE;go_in;go_upto_region 1 with fail;rw[←HW.out];go_wp2_with fail;refine jL.out.mono ?_;rintro y w1 ⟨cb,rfl,hnew⟩;obtain⟨GC,hC,hsu,hmo⟩:=Vz hnew;have hb1:=hmo.wV;have HC:=qd hC;have yg:=qd (show∀q∈GC,W.heap.size≤q from fun q hq=>(hsu q hq).elim (fun k=>by cases k) (fun k=>k));have HGl:=qd (show∀q∈GC,q<w1.heap.size from fun q hq=>(hC.facts.2.2.2.2.2.2.2.2.2.2.1 q hq).1);replace HX:=qB hb1 HX;have HB1:=qd (bL hb1 HB.out);have HL0:=qd hb1.size;have HZ:=qd (show w.heap.size<W.heap.size from by rw[HW.out];simp);clear hnew hC hsu hmo hb1 jL c;have c:=HX.out.c3;have HIt:=qd (VL I HI.out.2.2 w1);unfold bg;go_wp2_with fail;refine HIt.out.mono ?_;rintro y w2 ⟨rfl,hit,hb2⟩;replace HC:=qd (HC.out.below hb2);replace HX:=qB hb2 HX;have HB2:=qd (bL hb2 HB1.out);have HIa:=qd hit;have HL1:=qd (show W.heap.size≤w1.heap.size∧w1.heap.size+1<w2.heap.size from⟨HL0.out,hit.blk.lt⟩);clear hit hb2 HIt c;have c:=HX.out.c3
 obtain⟨ib,hib⟩:∃ib,ib=w1.heap.size+1:=⟨_,rfl⟩;obtain⟨mb,hmb⟩:∃mb,mb=w1.heap.size:=⟨_,rfl⟩;rw[←hib]at HIa HL1⊢;rw[←hmb]at HIa;have HQ:=qd (show mb=w1.heap.size∧ib=w1.heap.size+1 from⟨hmb,hib⟩);clear hib hmb;obtain⟨C,Bd⟩:∃C:fB,C=⟨(K:Int),(M:Int),(I:Int),cb,0,0,⟨0,0,0⟩,⟨0,0,0⟩,ib,⟨0,0,0⟩,⟨0,0,0⟩⟩:=⟨_,rfl⟩;have hbb:=(Below.refl w2.heap.size w2).alloc (Nat.le_refl _) (.cells C.cells 88);have hnb:=aj.new w2 88 C.cells
 have hS:fU W0 E H K M I w2.heap.size [] w C GC mb 0 (w2.alloc (.cells C.cells 88)) mE [] []:=by
  have h1:=HL1.out.1;have h2:=HL1.out.2;obtain⟨g1,g2⟩:=HQ.out;have hg:=HGl.out;have hs:=yg.out;have hz:=HZ.out;have hw0:=HE.out.size
  have e1:C.cb=cb:=by rw[Bd]
  have e2:C.ib=ib:=by rw[Bd]
  have hf:∀q,q∈bB ib mb []→q=ib∨q=mb:=fun q hq=>by unfold bB at hq;simpa using hq
  refine⟨⟨hnb,by rw[Bd];exact Nat.zero_le _,by rw[Bd];exact Nat.zero_le _⟩,by rw[Bd];exact⟨rfl,rfl,rfl⟩,by rw[e1];exact HC.out.below hbb,by rw[e2];exact HIa.out.below hbb,⟨by omega,fun q hq=> ?_⟩,⟨fun hh=>by have:=hg _ hh;omega,fun hh=> ?_,fun q hq hh=> ?_⟩,fun q hq=> .inr ?_,(Mod.of_below (bL hbb HB2.out) []),hw0⟩
  ·rw[e2]at hq;rcases hf q hq with k|k<;>omega
  ·rw[e2]at hh;rcases hf _ hh with k|k<;>omega
  ·rw[e2]at hq;have:=hg q hh;rcases hf q hq with k|k<;>omega
  ·rcases aG.1 hq with k|k|k
   ·omega
   ·rw[e2]at k;rcases hf q k with k|k<;>omega
   ·have:=hs q k;omega
 have hto:=hS.to;have hbz:=bL hbb HB2.out;rw[Bd]at hto hbz;unfold fB.cells at hto hbz;have HF:=qd (And.intro hto hbz);clear hS hto hbz hbb hnb Bd;go_wp2;refine bodyPost_ret (v:= .tuple #[pQ w2.heap.size,.nilIface]) (by simp[results,Tryz.results15,go_sem]) rfl ?_;obtain⟨G',k1,k2,k3⟩:=HF.out.1;exact⟨w2.heap.size,G',rfl,k1,fun q hq=>(k2 q hq).elim (fun z=>by cases z) (fun z=>z),HF.out.2⟩
theorem SK (hE:Env W0 E w)(k m i:Int)(hcf:jM k m i=false):Calls Tryz.prog 15 #[fZ k m i] w fun y w'=>y= .returned (.tuple #[.pointer none,dK E 1])∧Below w.heap.size w w':=by
 have hB0:=aj.new w 23 #[.int .i64 k,.int .i64 m,.int .i64 i];have hb0:=(Below.refl w.heap.size w).alloc (Nat.le_refl _) (.cells #[.int .i64 k,.int .i64 m,.int .i64 i] 23);obtain⟨W,hW⟩:∃W,W=w.alloc (.cells #[.int .i64 k,.int .i64 m,.int .i64 i] 23):=⟨_,rfl⟩;rw[←hW]at hB0 hb0;have hnb:=Ov (hE.next hb0) k m i hcf;obtain⟨c0,c1,c2⟩:=hB0.c3;rw[fI E (by omega:1≤1)]at hnb⊢;unfold fZ at hnb⊢;have jL:=qd hnb;have HB:=qd hb0;have HW:=qd hW;clear hnb hB0 hb0 hW hE;go_in;go_upto_region 1 with fail;rw[←HW.out];go_wp2_with fail;refine jL.out.mono ?_;rintro y w1 ⟨rfl,hb⟩;have HB1:=qd (bL hb HB.out);clear hb jL;go_wp2;refine bodyPost_ret (v:= .tuple #[.pointer none,.iface 318 (.pointer (some (E 1)))]) (by simp[results,Tryz.results15,go_sem]) rfl ⟨rfl,HB1.out⟩
theorem acH {H:Nat→Nat}{Kk M I b:Nat}{G:List Nat}{a:Pool}{ids:List Nat}{its:List It}{gv:Nat}{fC:bC}(h:j6 W0 E H Kk M I b G w a ids its gv fC)(key:Nat)(h64:H key<18446744073709551616):Calls Tryz.prog 19 #[pQ b,nU key,.int .u64 (H key:Int)] w fun y w'=>y= .returned (FT a.ents key)∧∃jh,oQ W0 E H Kk M I b G w w' a ids its gv jh:=by
 obtain⟨C,GC,mb,hS,rfl,mY⟩:=h;have hbk:=hS.blk.blk;unfold fB.cells at hbk;have c3:=hbk.cell 3;simp only[gl]at c3;have hget:=acC hS.core key h64;unfold bg FT at hget;obtain⟨gu,hgu⟩:∃g:Int,g=(((look a.ents key).getD ⟨0,0,0⟩).val:Int):=⟨_,rfl⟩;obtain⟨gi,hgi⟩:∃i,i=(look a.ents key).isSome:=⟨_,rfl⟩;unfold FT;rw[←hgu,←hgi]at hget⊢;have Qk:=qd hget;have HS:=qd hS;clear hgu hgi hget hbk hS mY;go_in;go_wp2_with fail;refine Qk.out.mono ?_;rintro y w1 ⟨rfl,hto⟩;obtain⟨fG,hs1,hsu,hmo⟩:=HS.out.YI hto;replace HS:=qd hs1;clear hto hs1 hsu hmo Qk c3;obtain⟨cc,hcc⟩:=HS.out.core.c_;have gB:=qd (Af hcc);unfold mH at gB;have hbk:=HS.out.blk.blk;unfold fB.cells at hbk;have c3:=hbk.cell 3;simp only[gl]at c3;clear hbk hcc;go_wp2_with fail;refine(sF _ _).mono ?_;rintro y w2 ⟨rfl,rfl⟩;go_wp2_with fail;refine gB.out.mono ?_;rintro y w2 ⟨rfl,hb⟩;replace HS:=qd (HS.out.below hb);clear hb gB c3;have sD:=qd (show Calls Tryz.prog 39 #[pQ b,.agg #[.int .i64 cc.p,.int .i64 cc.v,.int .i64 cc.u]] w2 _ from um HS.out.blk cc);go_wp2_with fail;refine sD.out.mono ?_;rintro y w3 ⟨rfl,hB3,gy⟩;have HE:=qd (HS.out.Dq hB3 gy ⟨rfl,rfl,rfl,rfl,rfl⟩).to;clear hB3 gy HS sD;go_wp2;refine bodyPost_ret (v:= .tuple #[.int .u64 gu,.bool gi]) (by simp[results,Tryz.results19,go_sem]) rfl ⟨rfl,_,HE.out⟩
end
end Go.Proofs.YtkkibocdfijnhaaGreatDoor
