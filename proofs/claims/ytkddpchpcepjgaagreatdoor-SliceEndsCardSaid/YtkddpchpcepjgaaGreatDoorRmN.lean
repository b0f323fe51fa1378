/- A map as one thing: its block, its core, its iterators. No statement of the claim. -/
import Derived.Test.YtkddpchpcepjgaaGreatDoorRmC
import Derived.Test.YtkddpchpcepjgaaGreatDoorRmI
namespace Go.Proofs.YtkddpchpcepjgaaGreatDoor
set_option maxRecDepth 100000
set_option maxHeartbeats 4000000
open Go.RowKit cu
section
variable {fT S : List Nat} {Kk ph pk pm pr : Nat} {V : World} {e : ay}
def eD (b:Nat)(C:fJ)(GC:List Nat)(mb:Nat)(its:List It):List Nat:=b::(bD C.ib mb its++GC)
structure gG (W0:World)(E:Nat->Addr)(H:Nat->Nat)(K M I b:Nat)(G0:List Nat)(w0:World)(C:fJ)(GC:List Nat)(mb gv:Nat)(w:World)(a:Pool)(ids:List Nat)(its:List It):Prop where
 blk:oH w b C
 cfg:C.k=(K:Int)/\C.m=(M:Int)/\C.i=(I:Int)
 core:gU W0 E H K M C.cb GC w a ids
 lS:fQ w C.ib mb I gv its
 b0:W0.heap.size<=b/\∀q∈bD C.ib mb its,W0.heap.size<=q
 apart:b∉GC/\b∉bD C.ib mb its/\∀q∈bD C.ib mb its,q∉GC
 sub:∀q∈eD b C GC mb its,q∈G0\/w0.heap.size<=q
 mod:Mod G0 w0 w
 qN:W0.heap.size<=w0.heap.size
theorem aG {b:Nat}{C:fJ}{GC:List Nat}{mb:Nat}{its:List It}{q:Nat}:q∈eD b C GC mb its↔q=b\/q∈bD C.ib mb its\/q∈GC:=by unfold eD;simp
section
variable {W0 : World} {E : Nat -> Addr} {H : Nat -> Nat} {K M I b : Nat} {G0 : List Nat} {w0 : World} {C C' : fJ} {GC : List Nat} {mb gv GA : Nat} {w w' : World} {a a' : Pool} {ids aL : List Nat} {its vI : List It}
theorem gG.fC (h:gG W0 E H K M I b G0 w0 C GC mb gv w a ids its):∀q∈eD b C GC mb its,q<w.heap.size/\W0.heap.size<=q:=λq hq=>by
 rcases aG.1 hq with rfl|hq|hq
 ·exact⟨h.blk.lt,h.b0.1⟩
 ·exact⟨h.lS.fC q hq,h.b0.2 q hq⟩
 ·exact h.core.facts.2.2.2.2.2.2.2.2.2.2.1 q hq
theorem gG.kk (h:gG W0 E H K M I b G0 w0 C GC mb gv w a ids its):1<=C.k/\C.k<=64:=by
 have:=h.core.facts.2.2.2.2.2.2.2.2.1;rw[h.cfg.1];omega
theorem gG.AB (h:gG W0 E H K M I b G0 w0 C GC mb gv w a ids its)(hm:Mod S w w')(hS:∀q∈S,q∉eD b C GC mb its/\w0.heap.size<=q):gG W0 E H K M I b G0 w0 C GC mb gv w' a ids its:=by
 have h1:∀q∈eD b C GC mb its,q∉S:=λq hq hs=>(hS q hs).1 hq;exact⟨h.blk.mod hm (h1 b (aG.2 (.inl rfl))),h.cfg,h.core.mod hm (λq hq=>⟨λhg=>(hS q hq).1 (aG.2 (.inr (.inr hg))),qf h.qN (hS q hq).2⟩),h.lS.mod hm (λq hq=>h1 q (aG.2 (.inr (.inl hq)))),h.b0,h.apart,h.sub,h.mod.trans hm (λ_ hk _=>hk) (λk hk hl=>absurd (hS k hk).2 (by omega)),h.qN⟩
theorem gG.below (h:gG W0 E H K M I b G0 w0 C GC mb gv w a ids its)(hb:Below w.heap.size w w'):gG W0 E H K M I b G0 w0 C GC mb gv w' a ids its:=h.AB (Mod.of_below hb []) (by simp)
theorem gG.EO (h:gG W0 E H K M I b G0 w0 C GC mb gv w a ids its)(hB:oH w' b C')(hm:Mod [b] w w')(hk:C'.k=C.k/\C'.m=C.m/\C'.i=C.i/\C'.cb=C.cb/\C'.ib=C.ib):gG W0 E H K M I b G0 w0 C' GC mb gv w' a ids its:=by
 obtain⟨k1,k2,k3,k4,k5⟩:=hk;refine⟨hB,by rw[k1,k2,k3];exact h.cfg,by rw[k4];exact h.core.mod hm (λq hq=>by rw[zj.1 hq];exact⟨h.apart.1,h.b0.1⟩),by rw[k5];exact h.lS.mod hm (λq hq hs=>h.apart.2.1 (zj.1 hs▸hq)),by rw[k5];exact h.b0,by rw[k5];exact h.apart,λq hq=>h.sub q (by rw[aG]at hq|-;rw[k5]at hq;exact hq),h.mod.trans hm (λ_ hk _=>hk) (λk hk hl=> ?_),h.qN⟩;rcases h.sub b (aG.2 (.inl rfl))with h1|h1
 ·rw[zj.1 hk];exact h1
 ·rw[zj.1 hk]at hl;omega
theorem Mod.within (h:Mod G0 w0 w)(hm:Mod S w w')(hs:∀q∈S,q∈G0\/w0.heap.size<=q):Mod G0 w0 w':=h.trans hm (λ_ hk _=>hk) λk hk hl=>(hs k hk).elim id λh1=>absurd h1 (by omega)
theorem gG.acz (h:gG W0 E H K M I b G0 w0 C GC mb gv w a ids its)(h1:gU W0 E H K M C.cb fT w' a' aL)(h2:∀q∈fT,q∈GC\/w.heap.size<=q)(h3:Mod GC w w'):gG W0 E H K M I b G0 w0 C fT mb gv w' a' aL its:=by
 have hbl:=h.blk.lt;have hil:=h.lS.fC;refine⟨h.blk.mod h3 h.apart.1,h.cfg,h1,h.lS.mod h3 h.apart.2.2,h.b0,⟨λhg=> ?_,h.apart.2.1,λq hq hg=> ?_⟩,λq hq=> ?_,h.mod.within h3 (λq hq=>h.sub q (aG.2 (.inr (.inr hq)))),h.qN⟩
 ·rcases h2 b hg with k|k
  ·exact h.apart.1 k
  ·omega
 ·rcases h2 q hg with k|k
  ·exact h.apart.2.2 q hq k
  ·have:=hil q hq;omega
 ·rcases aG.1 hq with k|k|k
  ·exact h.sub q (aG.2 (.inl k))
  ·exact h.sub q (aG.2 (.inr (.inl k)))
  ·rcases h2 q k with k|k
   ·exact h.sub q (aG.2 (.inr (.inr k)))
   ·have:=h.mod.size;exact .inr (by omega)
theorem gG.abm (h:gG W0 E H K M I b G0 w0 C GC mb gv w a ids its)(hc:kV W0 E H K M C.cb GC w w' a' aL):∃fT,gG W0 E H K M I b G0 w0 C fT mb gv w' a' aL its/\(∀q∈fT,q∈GC\/w.heap.size<=q)/\Mod GC w w':=by
 obtain⟨fT,h1,h2,h3⟩:=hc;exact⟨fT,h.acz h1 h2 h3,h2,h3⟩
theorem gG.VA (h:gG W0 E H K M I b G0 w0 C GC mb gv w a ids its)(hi:fQ w' C.ib mb I GA vI)(hm:Mod S w w')(hS:∀q∈S,q∈bD C.ib mb its\/(q∉eD b C GC mb its/\w0.heap.size<=q))(hn:∀q∈bD C.ib mb vI,q∈bD C.ib mb its\/w.heap.size<=q):gG W0 E H K M I b G0 w0 C GC mb GA w' a ids vI:=by
 have hbl:=h.blk.lt;have hcl:=h.core.facts.2.2.2.2.2.2.2.2.2.2.1;have hen:=h.core.facts.2.2.2.2.2.2.2.2.2.2.2.size;refine⟨h.blk.mod hm (λhs=> ?_),h.cfg,h.core.mod hm (λq hq=> ?_),hi,⟨h.b0.1,λq hq=> ?_⟩,⟨h.apart.1,λhq=> ?_,λq hq hg=> ?_⟩,λq hq=> ?_,h.mod.within hm (λq hq=> ?_),h.qN⟩
 ·rcases hS b hs with k|k
  ·exact h.apart.2.1 k
  ·exact k.1 (aG.2 (.inl rfl))
 ·rcases hS q hq with k|k
  ·exact⟨h.apart.2.2 q k,h.b0.2 q k⟩
  ·exact⟨λhg=>k.1 (aG.2 (.inr (.inr hg))),qf h.qN k.2⟩
 ·rcases hn q hq with k|k
  ·exact h.b0.2 q k
  ·omega
 ·rcases hn b hq with k|k
  ·exact h.apart.2.1 k
  ·omega
 ·rcases hn q hq with k|k
  ·exact h.apart.2.2 q k hg
  ·have:=(hcl q hg).1;omega
 ·rcases aG.1 hq with k|k|k
  ·exact h.sub q (aG.2 (.inl k))
  ·rcases hn q k with k|k
   ·exact h.sub q (aG.2 (.inr (.inl k)))
   ·have:=h.mod.size;exact .inr (by omega)
  ·exact h.sub q (aG.2 (.inr (.inr k)))
 ·rcases hS q hq with k|k
  ·exact h.sub q (aG.2 (.inr (.inl k)))
  ·exact .inr k.2
theorem gG.again (h:gG W0 E H K M I b G0 w0 C GC mb gv w a ids its):gG W0 E H K M I b (eD b C GC mb its) w C GC mb gv w a ids its:=⟨h.blk,h.cfg,h.core,h.lS,h.b0,h.apart,λq hq=> .inl hq,Mod.refl _ _,by have:=h.core.facts.2.2.2.2.2.2.2.2.2.2.2.size;exact this⟩
theorem gG.chain {mb':Nat}(h:gG W0 E H K M I b G0 w0 C GC mb gv w a ids its)(k:gG W0 E H K M I b (eD b C GC mb its) w C' fT mb' GA w' a' aL vI):gG W0 E H K M I b G0 w0 C' fT mb' GA w' a' aL vI:=
 ⟨k.blk,k.cfg,k.core,k.lS,k.b0,k.apart,λq hq=>(k.sub q hq).elim (λg=>h.sub q g) (λg=> .inr (by have:=h.mod.size;omega)),h.mod.within k.mod h.sub,h.qN⟩
end
def kY (W0:World)(E:Nat->Addr)(H:Nat->Nat)(K M I b:Nat)(G:List Nat)(w:World)(a:Pool)(ids:List Nat)(its:List It)(gv:Nat)(fK:bE):Prop:=
 ∃(C:fJ) (GC:List Nat) (mb:Nat),gG W0 E H K M I b (eD b C GC mb its) w C GC mb gv w a ids its/\G=eD b C GC mb its/\C.last=fK
def qo (W0:World)(E:Nat->Addr)(H:Nat->Nat)(K M I b:Nat)(G:List Nat)(w w':World)(a':Pool)(aL:List Nat)(vI:List It)(GA:Nat)(jM:bE):Prop:=
 ∃G',kY W0 E H K M I b G' w' a' aL vI GA jM/\(∀q∈G',q∈G\/w.heap.size<=q)/\Mod G w w'
section
variable {W0 : World} {E : Nat -> Addr} {H : Nat -> Nat} {K M I b : Nat} {G G0 : List Nat} {w0 w w' : World} {C : fJ} {GC : List Nat} {mb gv GA : Nat} {a a' : Pool} {ids aL : List Nat} {its vI : List It} {fK jM : bE}
theorem gG.to (h:gG W0 E H K M I b G w C GC mb gv w' a' aL vI):qo W0 E H K M I b G w w' a' aL vI gv C.last:=⟨_,⟨C,GC,mb,h.again,rfl,rfl⟩,h.sub,h.mod⟩
theorem kY.mod (h:kY W0 E H K M I b G w a ids its gv fK)(hm:Mod S w w')(hS:∀q∈S,q∉G/\W0.heap.size<=q):kY W0 E H K M I b G w' a ids its gv fK:=by
 obtain⟨C,GC,mb,h1,rfl,h2⟩:=h;have k1:∀q∈eD b C GC mb its,q∉S:=λq hq hs=>(hS q hs).1 hq;have h3:gG W0 E H K M I b (eD b C GC mb its) w' C GC mb gv w' a ids its:=⟨h1.blk.mod hm (k1 b (aG.2 (.inl rfl))),h1.cfg,h1.core.mod hm (λq hq=>⟨λhg=>(hS q hq).1 (aG.2 (.inr (.inr hg))),(hS q hq).2⟩),h1.lS.mod hm (λq hq=>k1 q (aG.2 (.inr (.inl hq)))),h1.b0,h1.apart,λq hq=> .inl hq,Mod.refl _ _,by have:=h1.qN;have:=hm.size;omega⟩;exact⟨C,GC,mb,h3,rfl,h2⟩
theorem kY.below (h:kY W0 E H K M I b G w a ids its gv fK)(hb:Below w.heap.size w w'):kY W0 E H K M I b G w' a ids its gv fK:=h.mod (Mod.of_below hb []) (by simp)
theorem kY.facts (h:kY W0 E H K M I b G w a ids its gv fK):(∀q∈G,q<w.heap.size/\W0.heap.size<=q)/\(a.ents.map ay.key).Nodup/\a.ents.length<=M/\M<=192/\a.Ns.length<=32/\1<=a.Ns.length/\(its.map It.id).Nodup/\its.length<=I/\I<=8/\Env W0 E w:=by
 obtain⟨C,GC,mb,h1,rfl,h2⟩:=h;obtain⟨_,_,f3,f4,_,_,f7,f8,_,f10,_,f12⟩:=h1.core.facts;exact⟨h1.fC,f10,f7,f8,f3,f4,h1.lS.nd,h1.lS.few.2,h1.lS.few.1,f12⟩
theorem qo.next (h:qo W0 E H K M I b G w w' a' aL vI GA jM){w2:World}(hb:Below w'.heap.size w' w2):qo W0 E H K M I b G w w2 a' aL vI GA jM:=by
 obtain⟨G',h1,h2,h3⟩:=h;exact⟨G',h1.below hb,h2,h3.then (Mod.of_below hb _)⟩
theorem aeM (h:kY W0 E H K M I b G w a ids its gv fK):Calls Tryz.prog 41 #[pQ b] w λy w'=>y= .returned (nI a.ents.length)/\w=w':=by
 obtain⟨C,GC,mb,hS,rfl,om⟩:=h;have hbk:=hS.blk.blk;unfold fJ.cells at hbk;have c3:=hbk.cell 3;simp only[gl]at c3;have HL:=qd (aeJ hS.core);unfold bg at HL;clear hbk hS om;go_in;go_wp2_with fail;refine HL.o.mono ?_;rintro y w1 ⟨rfl,rfl⟩;go_wp2;go_ret;exact⟨rfl,rfl⟩
theorem ado (h:kY W0 E H K M I b G w a ids its gv fK)(hlt:its.length<I)(hg:gv<=100000):Calls Tryz.prog 43 #[pQ b] w λy w'=>∃cb,y= .returned (.tuple #[.int .i64 ((gv+1:Nat):Int),.nilIface])/\qo W0 E H K M I b G w w' a ids (its++[⟨gv+1,cb,⟨0,0,false⟩⟩]) (gv+1) fK:=by
 obtain⟨C,GC,mb,hS,rfl,om⟩:=h;have hbk:=hS.blk.blk;unfold fJ.cells at hbk;have c16:=hbk.cell 16;simp only[gl]at c16;have hop:=Vz hS.lS hlt hg;have HO:=qd hop;have HS:=qd hS;have HQ:=qd om;clear hbk hS hop om;go_in;go_wp2_with fail;refine HO.o.mono ?_;rintro y w1 ⟨cb,hcb,rfl,hi,hm⟩
 have hs:=HS.o.VA hi hm (λq hq=> .inl (by unfold bD;simp at hq|-;rcases hq with k|k;exact .inl k;exact .inr (.inl k))) (λq hq=>by
  unfold bD at hq|-;simp only[jn,zt,Zs,ye,List.map_nil,Q1,XS]at hq|-;rcases hq with k|k|k|k
  ·exact .inl (.inl k)
  ·exact .inl (.inr (.inl k))
  ·exact .inl (.inr (.inr k))
  ·exact .inr (k▸hcb))
 have HE:=qd (show qo W0 E H K M I b (eD b C GC mb its) w w1 a ids (its++[⟨gv+1,cb,⟨0,0,false⟩⟩]) (gv+1) fK from HQ.o▸hs.to);clear hs hi hm hcb HO;go_wp2;refine bodyPost_ret (v:= .tuple #[.int .i64 ((gv:Int)+1),.nilIface]) (by simp[results,Tryz.results43,go_sem]) rfl ⟨cb,rfl,HE.o⟩
end
def KZ (W0:World)(E:Nat->Addr)(H:Nat->Nat)(K M I b:Nat)(G0:List Nat)(w0:World)(C:fJ)(GC:List Nat)(mb gv:Nat)(its:List It)(R:Pool->List Nat->Prop)(pr:Nat)(t:TypeId)(v:Value)(V w':World):Prop:=
 ∃fT a' aL,gG W0 E H K M I b G0 w0 C fT mb gv w' a' aL its/\R a' aL/\aj w' pr t #[v]/\(∀q∈fT,q∈GC\/V.heap.size<=q)/\Mod (pr::GC) V w'
theorem oI (E:Nat->Addr)(k:Nat):eT E k= .nilIface\/∃A,eT E k= .iface 333 (.pointer (some A)):=by
 unfold eT;split
 ·exact .inl rfl
 ·exact .inr ⟨_,rfl⟩
theorem adp {W0:World}{E:Nat->Addr}{H:Nat->Nat}{M I b:Nat}{G0:List Nat}{w0:World}{C:fJ}{GC:List Nat}{mb gv:Nat}{a:Pool}{ids:List Nat}{its:List It}{pv:Nat}(hS:gG W0 E H Kk M I b G0 w0 C GC mb gv V a ids its)(hm:aj V pm 57 #[pQ b])(hk:aj V pk 37 #[nU e.key])(hv:aj V pv 37 #[nU e.val])(hh:aj V ph 37 #[nU e.hash])(hr:aj V pr 29 #[.nilIface])(hne:pr∉eD b C GC mb its/\w0.heap.size<=pr)(he:kH H e):Calls Tryz.prog 67 #[pQ pm,pQ pk,pQ pv,pQ ph,pQ pr] V λy w'=>y= .returned undef/\KZ W0 E H Kk M I b G0 w0 C GC mb gv its (EN H Kk M a ids e) pr 29 (eT E (vG M a.ents e.key)) V w':=by
 have hbk:=hS.blk.blk;unfold fJ.cells at hbk;have c3:=hbk.cell 3;simp only[gl]at c3;have xm:=hm.cell 0;have xk:=hk.cell 0;have xv:=hv.cell 0;have xh:=hh.cell 0;simp only[zr,zc]at xm xk xv xh;have HS:=qd hS;have jU:=qd hr;have jr:=qd hne;have HE:=qd he;have hdr:=(Below.refl V.heap.size V).drew;have hcl:=adl (hS.core.below hdr) e he;unfold bg at hcl;obtain⟨ev,hev⟩:∃ev,ev=eT E (vG M a.ents e.key):=⟨_,rfl⟩;have hone:ev= .nilIface\/∃A,ev= .iface 333 (.pointer (some A)):=hev▸oI E _;rw[<-hev]at hcl|-;have Xu:=qd hone;clear hone;have zJ:=qd hcl;clear hcl hev hbk hS hr hne he hdr hm hk hv hh;go_in;refine rT (λ(w':World)=>w'.cell? ⟨pm,0,none⟩=some (pQ b)/\w'.cell? ⟨pk,0,none⟩=some (nU e.key)/\w'.cell? ⟨pv,0,none⟩=some (nU e.val)/\w'.cell? ⟨ph,0,none⟩=some (nU e.hash)/\w'.cell? ⟨b,3,none⟩=some (pQ C.cb)) [7,8] ?_;have hHeld:=(⟨xm,xk,xv,xh,c3⟩:_/\_/\_/\_/\_);refine vT 4 rfl ?_;refine vT 5 rfl ?_;refine vT 6 rfl ?_;refine nT 0 rfl λK hK=> ?_;go_simp;refine kO hK ?_;clear hK K;refine vW 1 rfl ?_;refine vW 2 rfl ?_;refine vT 3 rfl ?_;refine nT 7 rfl λK hK=> ?_;go_simp;refine zJ.o.mono ?_;rintro y V1 ⟨rfl,a',aL,hto,hpm⟩;obtain⟨fT,hS1,hsub,hmod⟩:=(HS.o.below (Below.refl V.heap.size V).drew).abm hto;have iD:=qd hS1;have zo:=qd hpm;have Cz:Mod GC V V1:=(Mod.of_below (Below.refl V.heap.size V).drew GC).then hmod;have zx:=qd (show∀q∈fT,q∈GC\/V.heap.size<=q from hsub);have hpl:=jU.o.lt
 have hr1:=(jU.o.mod Cz (λhg=>jr.o.1 (aG.2 (.inr (.inr hg)))));have HR1:=qd hr1;have HMo:=qd Cz;have jP:=qd hpl;clear hto hpm hS1 hsub hmod Cz hr1 hpl zJ;go_wp2_with fail;refine kO hK ?_;clear hK K;refine nT 8 rfl λK hK=> ?_;have r0:=HR1.o.cell 0;simp only[zr,zc]at r0;have rf:=HR1.o.frozen 0;have hn2:=HR1.o.ak 0 (ev);have hm2:=(Mod.refl [pr] V1).sl 0 (ev);simp only[yW,XX]at hn2
 have hfr:∀q∈[pr],q∉eD b C fT mb its/\w0.heap.size<=q:=λq hq=>by
  rw[zj.1 hq];refine⟨λhg=> ?_,jr.o.2⟩;rcases aG.1 hg with k|k|k
  ·exact jr.o.1 (aG.2 (.inl k))
  ·exact jr.o.1 (aG.2 (.inr (.inl k)))
  ·rcases zx.o pr k with k|k
   ·exact jr.o.1 (aG.2 (.inr (.inr k)))
   ·have:=jP.o;omega
 have HF:=qd (show KZ W0 E H Kk M I b G0 w0 C GC mb gv its (EN H Kk M a ids e) pr 29 (ev) V (V1.setCell ⟨pr,0,none⟩ (ev))from⟨fT,a',aL,iD.o.AB hm2 hfr,zo.o,hn2,zx.o,(HMo.o.more (λq hq=>qu _ hq)).then (hm2.more (λq hq=>by rw[zj.1 hq];simp))⟩);clear hn2 hm2 hfr;rcases Xu.o with hv|⟨A,hv⟩
 all_goals
  subst hv;go_simp;refine kO hK ?_;clear hK K;refine aV (by kernel_rfl) ?_ _;go_wp2;go_end0;exact⟨rfl,HF.o⟩
theorem adq {W0:World}{E:Nat->Addr}{H:Nat->Nat}{M I b:Nat}{G0:List Nat}{w0:World}{C:fJ}{GC:List Nat}{mb gv:Nat}{a:Pool}{ids:List Nat}{its:List It}(hS:gG W0 E H Kk M I b G0 w0 C GC mb gv V a ids its)(hm:aj V pm 57 #[pQ b])(hk:aj V pk 37 #[nU e.key])(hh:aj V ph 37 #[nU e.hash])(hr:aj V pr 4 #[.bool false])(hne:pr∉eD b C GC mb its/\w0.heap.size<=pr)(he:kH H e):Calls Tryz.prog 70 #[pQ pm,pQ pk,pQ ph,pQ pr] V λy w'=>y= .returned undef/\KZ W0 E H Kk M I b G0 w0 C GC mb gv its (λa' _=>a'.ents.Perm (rest a.ents e.key)) pr 4 (.bool (look a.ents e.key).isSome) V w':=by
 have hbk:=hS.blk.blk;unfold fJ.cells at hbk;have c3:=hbk.cell 3;simp only[gl]at c3;have xm:=hm.cell 0;have xk:=hk.cell 0;have xh:=hh.cell 0;simp only[zr,zc]at xm xk xh;have HS:=qd hS;have jU:=qd hr;have jr:=qd hne;have HE:=qd he;have hdr:=(Below.refl V.heap.size V).drew;have h64:=he.h64;have hcl:=aeK (hS.core.below hdr) e.key (by rw[<-he.hash];exact h64);rw[<-he.hash]at hcl;unfold bg Ik at hcl;obtain⟨gv0,aeN⟩:∃g:Int,g=(((look a.ents e.key).getD ⟨0,0,0⟩).val:Int):=⟨_,rfl⟩;obtain⟨iv,hiv⟩:∃i,i=(look a.ents e.key).isSome:=⟨_,rfl⟩;rw[<-aeN,<-hiv]at hcl;rw[<-hiv];have zJ:=qd hcl;clear hcl aeN hiv h64 hbk hS hr hne he hdr hm hk hh;go_in;refine rT (λ(w':World)=>w'.cell? ⟨pm,0,none⟩=some (pQ b)/\w'.cell? ⟨pk,0,none⟩=some (nU e.key)/\w'.cell? ⟨ph,0,none⟩=some (nU e.hash)/\w'.cell? ⟨b,3,none⟩=some (pQ C.cb)) [6,10] ?_;have hHeld:=(⟨xm,xk,xh,c3⟩:_/\_/\_/\_);refine vT 4 rfl ?_;refine vT 5 rfl ?_;refine nT 0 rfl λK hK=> ?_;go_simp;refine kO hK ?_;clear hK K;refine vW 1 rfl ?_;refine vW 2 rfl ?_;refine vT 3 rfl ?_;refine nT 6 rfl λK hK=> ?_;go_simp;refine zJ.o.mono ?_;rintro y V1 ⟨rfl,a',aL,hto,hpm⟩;obtain⟨fT,hS1,hsub,hmod⟩:=(HS.o.below (Below.refl V.heap.size V).drew).abm hto;have iD:=qd hS1;have zo:=qd hpm;have Cz:Mod GC V V1:=(Mod.of_below (Below.refl V.heap.size V).drew GC).then hmod;have zx:=qd (show∀q∈fT,q∈GC\/V.heap.size<=q from hsub);have hpl:=jU.o.lt;have hr1:=(jU.o.mod Cz (λhg=>jr.o.1 (aG.2 (.inr (.inr hg)))));have HR1:=qd hr1
 have HMo:=qd Cz;have jP:=qd hpl;clear hto hpm hS1 hsub hmod Cz hr1 hpl zJ;go_wp2_with fail;refine kO hK ?_;clear hK K;refine vL 7 rfl ?_;refine vL 8 rfl ?_;refine vL 9 rfl ?_;refine nT 10 rfl λK hK=> ?_;have r0:=HR1.o.cell 0;simp only[zr,zc]at r0;have rf:=HR1.o.frozen 0;have hn2:=HR1.o.ak 0 (.bool iv);have hm2:=(Mod.refl [pr] V1).sl 0 (.bool iv);simp only[yW,XX]at hn2
 have hfr:∀q∈[pr],q∉eD b C fT mb its/\w0.heap.size<=q:=λq hq=>by
  rw[zj.1 hq];refine⟨λhg=> ?_,jr.o.2⟩;rcases aG.1 hg with k|k|k
  ·exact jr.o.1 (aG.2 (.inl k))
  ·exact jr.o.1 (aG.2 (.inr (.inl k)))
  ·rcases zx.o pr k with k|k
   ·exact jr.o.1 (aG.2 (.inr (.inr k)))
   ·have:=jP.o;omega
 have HF:=qd (show KZ W0 E H Kk M I b G0 w0 C GC mb gv its (λa' _=>a'.ents.Perm (rest a.ents e.key)) pr 4 (.bool iv) V (V1.setCell ⟨pr,0,none⟩ (.bool iv))from⟨fT,a',aL,iD.o.AB hm2 hfr,zo.o,hn2,zx.o,(HMo.o.more (λq hq=>qu _ hq)).then (hm2.more (λq hq=>by rw[zj.1 hq];simp))⟩);clear hn2 hm2 hfr;go_simp;refine kO hK ?_;clear hK K;refine aV (by kernel_rfl) ?_ _;go_wp2;go_end0;exact⟨rfl,HF.o⟩
end
section
section
variable {W0 : World} {E : Nat -> Addr} {H : Nat -> Nat} {Kk M I b : Nat} {G0 : List Nat} {w0 w w' : World} {C : fJ} {GC : List Nat} {mb gv : Nat} {a : Pool} {ids : List Nat} {its : List It}
theorem gG.wrote (h:gG W0 E H Kk M I b G0 w0 C GC mb gv w a ids its)(hw:Wrote w b C w'):∃C',gG W0 E H Kk M I b G0 w0 C' GC mb gv w' a ids its/\Mod [b] w w'/\C'.cb=C.cb/\C'.ib=C.ib/\C'.lf<=C.lf:=by
 obtain⟨lf,gn,ma,ml,last,all,h1,h2,h3⟩:=hw;exact⟨_,h.EO h2 h3 ⟨rfl,rfl,rfl,rfl,rfl⟩,h3,rfl,rfl,h1⟩
end
theorem aeO {W0:World}{E:Nat->Addr}{H:Nat->Nat}{Kk M I b:Nat}{G:List Nat}{w:World}{a:Pool}{ids:List Nat}{its:List It}{gv:Nat}{fK:bE}(h:kY W0 E H Kk M I b G w a ids its gv fK)(e:ay)(he:kH H e):Calls Tryz.prog 39 #[pQ b,nU e.key,nU e.val,nU e.hash] w λy w'=>y= .returned (eT E (vG M a.ents e.key))/\∃a' aL jM,qo W0 E H Kk M I b G w w' a' aL its gv jM/\EN H Kk M a ids e a' aL:=by
 obtain⟨C,GC,mb,hS,rfl,om⟩:=h;obtain⟨W,hW,hB,hBm,Yt,hBv,yI,EP⟩:=qX5 w 57 #[pQ b] 37 #[nU e.key] 37 #[nU e.val] 37 #[nU e.hash] 29 #[.nilIface];have hlt:=λq hq=>(hS.fC q hq).1;have jr:=qd (show∀q,w.heap.size<=q->q∉eD b C GC mb its from λq hq hg=>by have:=hlt q hg;omega);have HS:=qd (hS.below hB);have hsz:=hB.size;have Gt:=qd hBm;have Yu:=qd Yt;have HBv:=qd hBv;have Yv:=qd yI;have xL:=qd EP;have hWl:=EP.lt;have HW:=qd hW;have HE:=qd he;clear hW hB hS hlt hBm Yt hBv yI EP;have p9:∀(fn:Fn) (first cap:Array Value) (w:World),(Instr.makeFunc fn first cap).run Tryz.prog w= .ok (.func fn first cap) w:=λ_ _ _ _=>rfl;have qp:=(Below.refl W.heap.size W).alloc (zb _) (.cells #[.nilIface] 29)
 have uW:=qd (Cx (S:=(w.heap.size+1+1+1+1)::GC) (K:=λw1=>KZ W0 E H Kk M I b (eD b C GC mb its) w C GC mb gv its (EN H Kk M a ids e) (w.heap.size+1+1+1+1) 29 (eT E (vG M a.ents e.key)) (W.alloc (.cells #[.nilIface] 29)) w1) 67 #[pQ w.heap.size,.pointer (some ⟨(w.heap.size+1),0,none⟩),.pointer (some ⟨(w.heap.size+1+1),0,none⟩),.pointer (some ⟨(w.heap.size+1+1+1),0,none⟩),.pointer (some ⟨(w.heap.size+1+1+1+1),0,none⟩)] W (λV=>enters_of Tryz.func67 (by kernel_rfl) rfl _ V)
  (λhg=>by
   rcases zt.1 hg with k|k
   ·omega
   ·exact jr.o _ (by omega) (aG.2 (.inr (.inr k))))
  ((adp (HS.o.below qp) (Gt.o.mod (Mod.of_below qp []) (by simp)) (Yu.o.mod (Mod.of_below qp []) (by simp)) (HBv.o.mod (Mod.of_below qp []) (by simp)) (Yv.o.mod (Mod.of_below qp []) (by simp)) (xL.o.mod (Mod.of_below qp []) (by simp)) ⟨jr.o _ (by omega),by omega⟩ HE.o).mono (λy w1 hh=>⟨hh.1,(by obtain⟨_,_,_,_,_,_,_,q⟩:=hh.2;exact q),hh.2⟩)))
 have QF:=qd qp;clear qp;go_in;go_upto_region 2 with fail;rw[<-HW.o];go_wp2_with fail;refine uW.o.mono ?_;rintro y w1 ⟨rfl,hm1,fT,a',aL,hS1,hpm,hr1,hsu,hm2⟩;have HS:=qd hS1;have zo:=qd hpm;have HR:=qd hr1
 have hx1:=(Gt.o.mod (Mod.of_below QF.o []) (by simp)).mod hm1 (λhg=>by
  rcases zt.1 hg with k|k
  ·omega
  ·exact jr.o _ (zb _) (aG.2 (.inr (.inr k))))
 have HX:=qd hx1;have JR:=qd (show(w.heap.size+1+1+1+1)∉[b]from λhg=>jr.o _ (by omega) (aG.2 (.inl (zj.1 hg))));clear hm1 hS1 hpm hr1 hsu hm2 hx1 uW Gt Yu HBv Yv xL QF
 cases hfu:uh M a.ents e.key with
 |false=>
  have hpc:vG M a.ents e.key=0:=by unfold vG;rw[hfu];rfl
  rw[hpc]at HR;have Ym:=qd hpc;clear hpc;rw[WB]at HR;have r0:=HR.o.cell 0;simp only[zr,zc]at r0;go_upto_region 8 with fail;clear r0;obtain⟨cc,hcc⟩:=HS.o.core.c_;have hbk:=HS.o.blk.blk;unfold fJ.cells at hbk;have c3:=hbk.cell 3;simp only[gl]at c3;have x0:=HX.o.cell 0;simp only[zr,zc]at x0;have fE:=qd (BI (hcc.below (Below.refl w1.heap.size w1).drew));unfold nL at fE;clear hbk hcc;refine rT (λ(w':World)=>w'.cell? ⟨w.heap.size,0,none⟩=some (pQ b)/\w'.cell? ⟨b,3,none⟩=some (pQ C.cb)) [7] ?_;have hHeld:=(⟨x0,c3⟩:_/\_);refine vT 0 rfl ?_;refine nT 1 rfl λK hK=> ?_;go_simp;refine kO hK ?_;clear hK K;refine vW 2 rfl ?_;refine vW 3 rfl ?_;refine nT 4 rfl λK hK=> ?_;go_simp;refine kO hK ?_;clear hK K;refine nT 5 rfl λK hK=> ?_;go_simp;refine(uj _ _).mono ?_;rintro y V1 ⟨rfl,rfl⟩;go_wp2_with fail;have hHeld:=(⟨x0,c3⟩:_/\_);refine kO hK ?_;clear hK K;refine nT 6 rfl λK hK=> ?_;go_simp;refine(fE.o).mono ?_;rintro y V2 ⟨rfl,hb⟩;replace hb:Below w1.heap.size w1 V2:=bN hb (Below.refl _ _).drew;replace HS:=qd (HS.o.below hb);replace x0:=aA hb x0;replace c3:=aA hb c3;clear hb fE;go_wp2_with fail;have hHeld:=(⟨x0,c3⟩:_/\_);refine kO hK ?_;clear hK K;refine nT 7 rfl λK hK=> ?_;go_simp;have lD:=qd (show Calls Tryz.prog 69 #[pQ b,.agg #[.int .i64 cc.p,.int .i64 cc.v,.int .i64 cc.u]] V2 _ from Il HS.o.blk HS.o.kk cc);refine(lD.o).mono ?_;rintro y V3 ⟨rfl,hwr⟩
  obtain⟨C3,MU,q3,abn,abo,abp⟩:=HS.o.wrote hwr;have kS:=qd MU;clear MU hwr q3 abn abo abp lD HS x0 c3;go_wp2_with fail;refine kO hK ?_;clear hK K;refine aV (by kernel_rfl) ?_ _;go_wp2;go_ret;exact⟨by rw[Ym.o];rfl,a',aL,_,kS.o.to,zo.o⟩
 |true=>
  have hpc:vG M a.ents e.key=2:=by unfold vG;rw[hfu];rfl
  rw[hpc]at HR;have Ym:=qd hpc;clear hpc;rw[gH E (by omega:1<=2)]at HR;have r0:=HR.o.cell 0;simp only[zr,zc]at r0;go_upto_region 6 with fail;clear r0;obtain⟨cc,hcc⟩:=HS.o.core.c_;have hbk:=HS.o.blk.blk;unfold fJ.cells at hbk;have c3:=hbk.cell 3;simp only[gl]at c3;have x0:=HX.o.cell 0;simp only[zr,zc]at x0;have fE:=qd (BI (hcc.below (Below.refl w1.heap.size w1).drew));unfold nL at fE;clear hbk hcc;refine rT (λ(w':World)=>w'.cell? ⟨w.heap.size,0,none⟩=some (pQ b)/\w'.cell? ⟨b,3,none⟩=some (pQ C.cb)) [7] ?_;have hHeld:=(⟨x0,c3⟩:_/\_);refine vT 0 rfl ?_;refine nT 1 rfl λK hK=> ?_;go_simp;refine kO hK ?_;clear hK K;refine vW 2 rfl ?_;refine vW 3 rfl ?_;refine nT 4 rfl λK hK=> ?_;go_simp;refine kO hK ?_;clear hK K;refine nT 5 rfl λK hK=> ?_;go_simp;refine(uj _ _).mono ?_;rintro y V1 ⟨rfl,rfl⟩;go_wp2_with fail;have hHeld:=(⟨x0,c3⟩:_/\_);refine kO hK ?_;clear hK K;refine nT 6 rfl λK hK=> ?_;go_simp;refine(fE.o).mono ?_;rintro y V2 ⟨rfl,hb⟩;replace hb:Below w1.heap.size w1 V2:=bN hb (Below.refl _ _).drew;replace HS:=qd (HS.o.below hb);replace HR:=qB hb HR;replace x0:=aA hb x0;replace c3:=aA hb c3;clear hb fE;go_wp2_with fail;have hHeld:=(⟨x0,c3⟩:_/\_);refine kO hK ?_;clear hK K;refine nT 7 rfl λK hK=> ?_;go_simp;have lD:=qd (show Calls Tryz.prog 48 #[pQ b,.agg #[.int .i64 cc.p,.int .i64 cc.v,.int .i64 cc.u]] V2 _ from vH HS.o.blk cc)
  refine(lD.o).mono ?_;rintro y V3 ⟨rfl,hwr,q3⟩;have kS:=qd (HS.o.EO hwr q3 ⟨rfl,rfl,rfl,rfl,rfl⟩);replace HR:=qd (HR.o.mod q3 JR.o);clear hwr q3 lD HS x0 c3;go_wp2_with fail;refine kO hK ?_;clear hK K;refine aV (by kernel_rfl) ?_ _;have r0:=HR.o.cell 0;simp only[zr,zc]at r0;go_wp2;go_ret;exact⟨by rw[Ym.o,gH E (by omega:1<=2)];rfl,a',aL,_,kS.o.to,zo.o⟩
theorem Yw {W0:World}{E:Nat->Addr}{H:Nat->Nat}{Kk M I b:Nat}{G:List Nat}{w:World}{a:Pool}{ids:List Nat}{its:List It}{gv:Nat}{fK:bE}(h:kY W0 E H Kk M I b G w a ids its gv fK)(e:ay)(he:kH H e):Calls Tryz.prog 40 #[pQ b,nU e.key,nU e.hash] w λy w'=>y= .returned (.bool (look a.ents e.key).isSome)/\∃a' aL jM,qo W0 E H Kk M I b G w w' a' aL its gv jM/\a'.ents.Perm (rest a.ents e.key):=by
 obtain⟨iv,hiv⟩:∃i,i=(look a.ents e.key).isSome:=⟨_,rfl⟩;rw[<-hiv];have HIv:=qd hiv;clear hiv;obtain⟨C,GC,mb,hS,rfl,om⟩:=h;obtain⟨W,hW,hB,hBm,Yt,yI,EP⟩:=qX4 w 57 #[pQ b] 37 #[nU e.key] 37 #[nU e.hash] 4 #[.bool false];have hlt:=λq hq=>(hS.fC q hq).1;have jr:=qd (show∀q,w.heap.size<=q->q∉eD b C GC mb its from λq hq hg=>by have:=hlt q hg;omega);have HS:=qd (hS.below hB);have hsz:=hB.size;have Gt:=qd hBm;have Yu:=qd Yt;have Yv:=qd yI;have xL:=qd EP;have hWl:=EP.lt;have HW:=qd hW;have HE:=qd he;clear hW hB hS hlt hBm Yt yI EP;have p9:∀(fn:Fn) (first cap:Array Value) (w:World),(Instr.makeFunc fn first cap).run Tryz.prog w= .ok (.func fn first cap) w:=λ_ _ _ _=>rfl;have qp:=(Below.refl W.heap.size W).alloc (zb _) (.cells #[.nilIface] 29)
 have uW:=qd (Cx (S:=(w.heap.size+1+1+1)::GC) (K:=λw1=>KZ W0 E H Kk M I b (eD b C GC mb its) w C GC mb gv its (λa' _=>a'.ents.Perm (rest a.ents e.key)) (w.heap.size+1+1+1) 4 (.bool (look a.ents e.key).isSome) (W.alloc (.cells #[.nilIface] 29)) w1) 70 #[pQ w.heap.size,.pointer (some ⟨(w.heap.size+1),0,none⟩),.pointer (some ⟨(w.heap.size+1+1),0,none⟩),.pointer (some ⟨(w.heap.size+1+1+1),0,none⟩)] W (λV=>enters_of Tryz.func70 (by kernel_rfl) rfl _ V)
  (λhg=>by
   rcases zt.1 hg with k|k
   ·omega
   ·exact jr.o _ (by omega) (aG.2 (.inr (.inr k))))
  ((adq (HS.o.below qp) (Gt.o.mod (Mod.of_below qp []) (by simp)) (Yu.o.mod (Mod.of_below qp []) (by simp)) (Yv.o.mod (Mod.of_below qp []) (by simp)) (xL.o.mod (Mod.of_below qp []) (by simp)) ⟨jr.o _ (by omega),by omega⟩ HE.o).mono (λy w1 hh=>⟨hh.1,(by obtain⟨_,_,_,_,_,_,_,q⟩:=hh.2;exact q),hh.2⟩)))
 have QF:=qd qp;clear qp;go_in;go_upto_region 2 with fail;rw[<-HW.o];go_wp2_with fail;refine uW.o.mono ?_;rintro y w1 ⟨rfl,hm1,fT,a',aL,hS1,hpm,hr1,hsu,hm2⟩;have HS:=qd hS1;have zo:=qd hpm;have HR:=qd hr1
 have hx1:=(Gt.o.mod (Mod.of_below QF.o []) (by simp)).mod hm1 (λhg=>by
  rcases zt.1 hg with k|k
  ·omega
  ·exact jr.o _ (zb _) (aG.2 (.inr (.inr k))))
 have HX:=qd hx1;have JR:=qd (show(w.heap.size+1+1+1)∉[b]from λhg=>jr.o _ (by omega) (aG.2 (.inl (zj.1 hg))));clear hm1 hS1 hpm hr1 hsu hm2 hx1 uW Gt Yu Yv xL QF;rw[<-HIv.o]at HR;go_upto_region 3 with fail;obtain⟨cc,hcc⟩:=HS.o.core.c_;have hbk:=HS.o.blk.blk;unfold fJ.cells at hbk;have c3:=hbk.cell 3;simp only[gl]at c3;have x0:=HX.o.cell 0;simp only[zr,zc]at x0;have fE:=qd (BI (hcc.below (Below.refl w1.heap.size w1).drew));unfold nL at fE;clear hbk hcc;refine rT (λ(w':World)=>w'.cell? ⟨w.heap.size,0,none⟩=some (pQ b)/\w'.cell? ⟨b,3,none⟩=some (pQ C.cb)) [7] ?_;have hHeld:=(⟨x0,c3⟩:_/\_);refine vT 0 rfl ?_;refine nT 1 rfl λK hK=> ?_;go_simp;refine kO hK ?_;clear hK K;refine vW 2 rfl ?_;refine vW 3 rfl ?_;refine nT 4 rfl λK hK=> ?_;go_simp;refine kO hK ?_;clear hK K;refine nT 5 rfl λK hK=> ?_;go_simp;refine(uj _ _).mono ?_;rintro y V1 ⟨rfl,rfl⟩;go_wp2_with fail;have hHeld:=(⟨x0,c3⟩:_/\_);refine kO hK ?_;clear hK K;refine nT 6 rfl λK hK=> ?_;go_simp;refine(fE.o).mono ?_;rintro y V2 ⟨rfl,hb⟩;replace hb:Below w1.heap.size w1 V2:=bN hb (Below.refl _ _).drew;replace HS:=qd (HS.o.below hb);replace HR:=qB hb HR;replace x0:=aA hb x0;replace c3:=aA hb c3;clear hb fE;go_wp2_with fail;have hHeld:=(⟨x0,c3⟩:_/\_);refine kO hK ?_;clear hK K;refine nT 7 rfl λK hK=> ?_;go_simp
 have lD:=qd (show Calls Tryz.prog 69 #[pQ b,.agg #[.int .i64 cc.p,.int .i64 cc.v,.int .i64 cc.u]] V2 _ from Il HS.o.blk HS.o.kk cc);refine(lD.o).mono ?_;rintro y V3 ⟨rfl,hwr⟩;obtain⟨C3,MU,q3,abn,abo,abp⟩:=HS.o.wrote hwr;have kS:=qd MU;replace HR:=qd (HR.o.mod q3 JR.o);clear MU hwr q3 abn abo abp lD HS x0 c3;go_wp2_with fail;refine kO hK ?_;clear hK K;refine aV (by kernel_rfl) ?_ _;have r0:=HR.o.cell 0;simp only[zr,zc]at r0;go_wp2;go_ret;exact⟨rfl,a',aL,_,kS.o.to,zo.o⟩
end
section
variable {W0 w : World} {E : Nat -> Addr}
theorem aeP (H:Nat->Nat)(hE:Env W0 E w)(k m i:Int)(hcf:jB k m i=true)(K M I:Nat)(hkm:(1<=K/\K<=64)/\(1<=M/\M<=192)/\k=(K:Int)/\m=(M:Int)/\i=(I:Int))(I8:1<=I/\I<=8):Calls Tryz.prog 17 #[eX k m i] w λy w'=>∃b G,y= .returned (.tuple #[pQ b,.nilIface])/\kY W0 E H K M I b G w' nJ [] [] 0 ⟨0,0,0⟩/\(∀q∈G,w.heap.size<=q)/\Below w.heap.size w w':=by
 obtain⟨hK,hM,rfl,rfl,rfl⟩:=hkm;have HI:=qd (And.intro hK (And.intro hM I8));have hB0:=aj.new w 23 #[nI K,nI M,nI I];have hb0:=(Below.refl w.heap.size w).alloc (zb _) (.cells #[nI K,nI M,nI I] 23);obtain⟨W,hW⟩:∃W,W=w.alloc (.cells #[nI K,nI M,nI I] 23):=⟨_,rfl⟩;rw[<-hW]at hB0 hb0;have hnb:=Qy H (hE.next hb0) (K:Int) (M:Int) (I:Int) hcf K M I ⟨hK,hM,rfl,rfl,rfl⟩;have c:=hB0.c3;unfold eX at hnb|-;have jJ:=qd hnb;have HX:=qd hB0;have HB:=qd hb0;have HW:=qd hW;have HE:=qd hE;clear hnb hB0 hb0 hW hK hM I8 hE;go_in;go_upto_region 1 with fail;rw[<-HW.o];go_wp2_with fail;refine jJ.o.mono ?_;rintro y w1 ⟨cb,rfl,hnew⟩;obtain⟨GC,hC,hsu,hmo⟩:=Yg hnew;have hb1:=hmo.yG;have HC:=qd hC;have zx:=qd (show∀q∈GC,W.heap.size<=q from λq hq=>(hsu q hq).elim (λk=>by cases k) (λk=>k));have HGl:=qd (show∀q∈GC,q<w1.heap.size from λq hq=>(hC.facts.2.2.2.2.2.2.2.2.2.2.1 q hq).1);replace HX:=qB hb1 HX;have HB1:=qd (bN hb1 HB.o);have HL0:=qd hb1.size;have HZ:=qd (show w.heap.size<W.heap.size from by rw[HW.o];simp);clear hnew hC hsu hmo hb1 jJ c;have c:=HX.o.c3;have HIt:=qd (Yr I HI.o.2.2 w1);unfold bg;go_wp2_with fail;refine HIt.o.mono ?_;rintro y w2 ⟨rfl,hit,hb2⟩;replace HC:=qd (HC.o.below hb2);replace HX:=qB hb2 HX;have HB2:=qd (bN hb2 HB1.o);have HIa:=qd hit;have Yx:=qd (show W.heap.size<=w1.heap.size/\w1.heap.size+1<w2.heap.size from⟨HL0.o,hit.blk.lt⟩);clear hit hb2 HIt c;have c:=HX.o.c3
 obtain⟨ib,hib⟩:∃ib,ib=w1.heap.size+1:=⟨_,rfl⟩;obtain⟨mb,hmb⟩:∃mb,mb=w1.heap.size:=⟨_,rfl⟩;rw[<-hib]at HIa Yx|-;rw[<-hmb]at HIa;have HQ:=qd (show mb=w1.heap.size/\ib=w1.heap.size+1 from⟨hmb,hib⟩);clear hib hmb;obtain⟨C,CB⟩:∃C:fJ,C=⟨(K:Int),(M:Int),(I:Int),cb,0,0,⟨0,0,0⟩,⟨0,0,0⟩,ib,⟨0,0,0⟩,⟨0,0,0⟩⟩:=⟨_,rfl⟩;have hbb:=(Below.refl w2.heap.size w2).alloc (zb _) (.cells C.cells 97);have hnb:=aj.new w2 97 C.cells
 have hS:gG W0 E H K M I w2.heap.size [] w C GC mb 0 (w2.alloc (.cells C.cells 97)) nJ [] []:=by
  have h1:=Yx.o.1;have h2:=Yx.o.2;obtain⟨g1,g2⟩:=HQ.o;have hg:=HGl.o;have hs:=zx.o;have hz:=HZ.o;have hw0:=HE.o.size
  have e1:C.cb=cb:=by rw[CB]
  have e2:C.ib=ib:=by rw[CB]
  have hf:∀q,q∈bD ib mb []->q=ib\/q=mb:=λq hq=>by unfold bD at hq;simpa using hq
  refine⟨⟨hnb,by rw[CB];exact Q4 _,by rw[CB];exact Q4 _⟩,by rw[CB];exact⟨rfl,rfl,rfl⟩,by rw[e1];exact HC.o.below hbb,by rw[e2];exact HIa.o.below hbb,⟨by omega,λq hq=> ?_⟩,⟨λhh=>by have:=hg _ hh;omega,λhh=> ?_,λq hq hh=> ?_⟩,λq hq=> .inr ?_,(Mod.of_below (bN hbb HB2.o) []),hw0⟩
  ·rw[e2]at hq;rcases hf q hq with k|k<;>omega
  ·rw[e2]at hh;rcases hf _ hh with k|k<;>omega
  ·rw[e2]at hq;have:=hg q hh;rcases hf q hq with k|k<;>omega
  ·rcases aG.1 hq with k|k|k
   ·omega
   ·rw[e2]at k;rcases hf q k with k|k<;>omega
   ·have:=hs q k;omega
 have hto:=hS.to;have hbz:=bN hbb HB2.o;rw[CB]at hto hbz;unfold fJ.cells at hto hbz;have HF:=qd (And.intro hto hbz);clear hS hto hbz hbb hnb CB;go_wp2;refine bodyPost_ret (v:= .tuple #[pQ w2.heap.size,.nilIface]) (by simp[results,Tryz.results17,go_sem]) rfl ?_;obtain⟨G',k1,k2,k3⟩:=HF.o.1;exact⟨w2.heap.size,G',rfl,k1,λq hq=>(k2 q hq).elim (λz=>by cases z) (λz=>z),HF.o.2⟩
theorem VB (hE:Env W0 E w)(k m i:Int)(hcf:jB k m i=false):Calls Tryz.prog 17 #[eX k m i] w λy w'=>y= .returned (.tuple #[.pointer none,eT E 1])/\Below w.heap.size w w':=by
 have hB0:=aj.new w 23 #[.int .i64 k,.int .i64 m,.int .i64 i];have hb0:=(Below.refl w.heap.size w).alloc (zb _) (.cells #[.int .i64 k,.int .i64 m,.int .i64 i] 23);obtain⟨W,hW⟩:∃W,W=w.alloc (.cells #[.int .i64 k,.int .i64 m,.int .i64 i] 23):=⟨_,rfl⟩;rw[<-hW]at hB0 hb0;have hnb:=Qx (hE.next hb0) k m i hcf;obtain⟨c0,c1,c2⟩:=hB0.c3;rw[gH E (by omega:1<=1)]at hnb|-;unfold eX at hnb|-;have jJ:=qd hnb;have HB:=qd hb0;have HW:=qd hW;clear hnb hB0 hb0 hW hE;go_in;go_upto_region 1 with fail;rw[<-HW.o];go_wp2_with fail;refine jJ.o.mono ?_;rintro y w1 ⟨rfl,hb⟩;have HB1:=qd (bN hb HB.o);clear hb jJ;go_wp2;refine bodyPost_ret (v:= .tuple #[.pointer none,.iface 333 (.pointer (some (E 1)))]) (by simp[results,Tryz.results17,go_sem]) rfl ⟨rfl,HB1.o⟩
theorem aeQ {H:Nat->Nat}{Kk M I b:Nat}{G:List Nat}{a:Pool}{ids:List Nat}{its:List It}{gv:Nat}{fK:bE}(h:kY W0 E H Kk M I b G w a ids its gv fK)(key:Nat)(h64:H key<18446744073709551616):Calls Tryz.prog 21 #[pQ b,nU key,.int .u64 (H key:Int)] w λy w'=>y= .returned (Ik a.ents key)/\∃jM,qo W0 E H Kk M I b G w w' a ids its gv jM:=by
 obtain⟨C,GC,mb,hS,rfl,om⟩:=h;have hbk:=hS.blk.blk;unfold fJ.cells at hbk;have c3:=hbk.cell 3;simp only[gl]at c3;have hget:=aeL hS.core key h64;unfold bg Ik at hget;obtain⟨gu,hgu⟩:∃g:Int,g=(((look a.ents key).getD ⟨0,0,0⟩).val:Int):=⟨_,rfl⟩;obtain⟨gi,hgi⟩:∃i,i=(look a.ents key).isSome:=⟨_,rfl⟩;unfold Ik;rw[<-hgu,<-hgi]at hget|-;have SN:=qd hget;have HS:=qd hS;clear hgu hgi hget hbk hS om;go_in;go_wp2_with fail;refine SN.o.mono ?_;rintro y w1 ⟨rfl,hto⟩;obtain⟨fT,hs1,hsu,hmo⟩:=HS.o.abm hto;replace HS:=qd hs1;clear hto hs1 hsu hmo SN c3;obtain⟨cc,hcc⟩:=HS.o.core.c_;have fE:=qd (BI hcc);unfold nL at fE;have hbk:=HS.o.blk.blk;unfold fJ.cells at hbk;have c3:=hbk.cell 3;simp only[gl]at c3;clear hbk hcc;go_wp2_with fail;refine(uj _ _).mono ?_;rintro y w2 ⟨rfl,rfl⟩;go_wp2_with fail;refine fE.o.mono ?_;rintro y w2 ⟨rfl,hb⟩;replace HS:=qd (HS.o.below hb);clear hb fE c3;have EM:=qd (show Calls Tryz.prog 48 #[pQ b,.agg #[.int .i64 cc.p,.int .i64 cc.v,.int .i64 cc.u]] w2 _ from vH HS.o.blk cc);go_wp2_with fail;refine EM.o.mono ?_;rintro y w3 ⟨rfl,hB3,gQ⟩;have HE:=qd (HS.o.EO hB3 gQ ⟨rfl,rfl,rfl,rfl,rfl⟩).to;clear hB3 gQ HS EM;go_wp2;refine bodyPost_ret (v:= .tuple #[.int .u64 gu,.bool gi]) (by simp[results,Tryz.results21,go_sem]) rfl ⟨rfl,_,HE.o⟩
end
