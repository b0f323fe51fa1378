/- A node in the heap, in every phase of its job: where it lies, which table a key's write goes to. -/
import Derived.Test.YtkddpchpcepjgaaGreatDoorCoCA
namespace Go.Proofs.YtkddpchpcepjgaaGreatDoor
set_option maxRecDepth 100000
set_option maxHeartbeats 4000000
open Go.RowKit cu
section
variable {S : List Nat} {H : Nat -> Nat}
def Nd.dep (N:Nd):Nat:=if N.many=1 then 0 else N.au
theorem aaO (N:Nd)(h:Nat):dJ N.many N.dep h=dJ N.many N.au h:=by
 unfold Nd.dep dJ
 split<;>rfl
def lY (N:Nd)(tb:Nat)(dv:Value):Array Value:= #[nI N.pfx,nI N.au,pQ tb,nI N.kind,dv]
def bM (w:World)(nb:Nat)(F:List Nat)(N:Nd):Prop:=match N.ph with
 | .idle=>∃tb gb,aj w nb 177 (lY N tb (.pointer none))/\TabAt w tb gb N.T/\F=[nb,tb,gb]/\nb≠tb/\nb≠gb
 | .nR k=>∃db rb cap ob og bl,aj w nb 177 (lY N ob (pQ db))/\wG w db rb cap ob og bl N.T N.each N.dep k/\bl.length=N.many/\F=nb::bL db rb ob og bl/\nb∉bL db rb ob og bl
 | .jq Ts next=>∃db rb cap ob og fb cB eb vb dw bC bs,aj w nb 177 (lY N ob (pQ db))/\pY w db rb cap ob og fb cB eb vb dw bC bs N.T Ts N.each N.dep next/\bs.length=N.many/\F=nb::aW db rb fb eb vb ob og bC bs/\nb∉aW db rb fb eb vb ob og bC bs
section
variable {w w' : World} {db rb cap ob og fb cB eb vb dw : Nat} {bl : List (Nat × Nat × Nat)} {bC : List Nat} {bs : List (Nat × Nat)} {T X : aC} {Ts : List aC} {n depth k next : Nat}
theorem wG.fC (h:wG w db rb cap ob og bl T n depth k):∀q∈bL db rb ob og bl,q<w.heap.size:=by
 intro q hq;unfold bL at hq;simp only[zt,jz]at hq;rcases hq with rfl|rfl|rfl|rfl|⟨b,hb,hq⟩
 ·exact h.blk.lt
 ·exact h.row.lt
 ·exact h.tab.aS
 ·exact h.tab.aT
 ·obtain⟨i,hi⟩:=qs hb;have:=h.pq i b hi;simp at hq;rcases hq with rfl|rfl|rfl
  ·exact this.lt
  ·exact this.aS
  ·exact this.aT
theorem pY.fC (h:pY w db rb cap ob og fb cB eb vb dw bC bs T Ts n depth next):∀q∈aW db rb fb eb vb ob og bC bs,q<w.heap.size:=by
 intro q hq;unfold aW at hq;simp only[zt,Zs,dV]at hq;rcases hq with rfl|rfl|rfl|rfl|rfl|rfl|rfl|hq|⟨b,hb,hq⟩
 ·exact h.blk.lt
 ·exact h.row.lt
 ·exact h.fresh.lt
 ·exact h.ev.lt
 ·exact h.ev.qH
 ·exact h.tab.aS
 ·exact h.tab.aT
 ·exact(h.pq q hq).lt
 ·obtain⟨i,hi⟩:=qs hb;obtain⟨T',hT'⟩:∃T',Ts[i]?=some T':=⟨_,zg (by rw[<-h.tabs.len];exact(zz.1 hi).1)⟩;have:=h.tabs.at_ i b T' hi hT';rcases hq with rfl|rfl
  ·exact this.aS
  ·exact this.aT
theorem wG.qQ (h:wG w db rb cap ob og bl T n depth k)(hT:TabAt w' ob og X)(hm:Mod S w w')(hS:∀q∈bL db rb ob og bl,q∈S->q=ob\/q=og):wG w' db rb cap ob og bl X n depth k:=by
 have hnd:=h.nd;unfold bL at hnd;simp only[qa,zt,jz,not_or]at hnd;obtain⟨⟨h1,h2,h3,_⟩,⟨h4,h5,h6⟩,⟨h7,h8⟩,h9,_⟩:=hnd;refine⟨h.blk.mod hm (λhh=> ?_),h.row.mod hm (λhh=> ?_),λi b hb=> ?_,hT,h.pow,h.many,h.lt,h.deep,h.nd⟩
 ·rcases hS _ (by simp[bL]) hh with e|e
  ·exact h2 e
  ·exact h3 e
 ·rcases hS _ (by simp[bL]) hh with e|e
  ·exact h4 e
  ·exact h5 e
 ·have pX:=zE hb;obtain⟨m1,m2,m3⟩:=wH (db:=db) (rb:=rb) (ob:=ob) (og:=og) pX;have hne:∀q∈[b.1,b.2.1,b.2.2],q≠ob/\q≠og:=λq hq=>⟨λe=>h8 ⟨b,pX,by have h:=e▸hq;simpa using h⟩,λe=>h9 ⟨b,pX,by have h:=e▸hq;simpa using h⟩⟩;refine(h.pq i b hb).mod hm (λhh=> ?_) (λhh=> ?_) (λhh=> ?_)
  ·rcases hS _ m1 hh with e|e
   ·exact(hne _ (by simp)).1 e
   ·exact(hne _ (by simp)).2 e
  ·rcases hS _ m2 hh with e|e
   ·exact(hne _ (by simp)).1 e
   ·exact(hne _ (by simp)).2 e
  ·rcases hS _ m3 hh with e|e
   ·exact(hne _ (by simp)).1 e
   ·exact(hne _ (by simp)).2 e
theorem Gl {q:Nat}(h:q∈bC):q∈aW db rb fb eb vb ob og bC bs:=by unfold aW;simp[h]
theorem pY.qQ (h:pY w db rb cap ob og fb cB eb vb dw bC bs T Ts n depth next)(hT:TabAt w' ob og X)(hm:Mod S w w')(hS:∀q∈aW db rb fb eb vb ob og bC bs,q∈S->q=ob\/q=og):pY w' db rb cap ob og fb cB eb vb dw bC bs X Ts n depth next:=by
 have hnd:=h.nd;unfold aW at hnd;simp only[qa,zt,Zs,not_or]at hnd;obtain⟨⟨a1,a2,a3,a4,a5,a6,a7,a8⟩,⟨b2,b3,b4,b5,b6,b7,b8⟩,⟨c3,c4,c5,c6,c7,c8⟩,⟨d4,d5,d6,d7,d8⟩,⟨e5,e6,e7,e8⟩,⟨f6,f7,f8⟩,⟨g7,g8⟩,_⟩:=hnd
 have key:∀q,q∈aW db rb fb eb vb ob og bC bs->q≠ob->q≠og->q∉S:=λq hq n1 n2 hh=>by
  rcases hS q hq hh with e|e
  ·exact n1 e
  ·exact n2 e
 refine⟨h.blk.mod hm (key _ (by simp[aW]) a5 a6),h.row.mod hm (key _ (by simp[aW]) b5 b6),λb hb=>(h.pq b hb).mod hm (key _ (Gl hb) (λe=>f7 (e▸hb)) (λe=>g7 (e▸hb))),h.fresh.mod hm (key _ (by simp[aW]) c5 c6),
  h.ev.mod hm (key _ (by simp[aW]) d5 d6) (key _ (by simp[aW]) e5 e6),hT,h.tabs.mod hm (λb hb=> ?_),h.pow,h.many,h.eq,h.deep,h.nd⟩
 obtain⟨m1,m2⟩:=iU (db:=db) (rb:=rb) (fb:=fb) (eb:=eb) (vb:=vb) (ob:=ob) (og:=og) (bC:=bC) hb;exact⟨key _ m1 (λe=>f8 (e▸dV.2 ⟨b,hb,.inl rfl⟩)) (λe=>g8 (e▸dV.2 ⟨b,hb,.inl rfl⟩)),key _ m2 (λe=>f8 (e▸dV.2 ⟨b,hb,.inr rfl⟩)) (λe=>g8 (e▸dV.2 ⟨b,hb,.inr rfl⟩))⟩
theorem pY.PD (h:pY w db rb cap ob og fb cB eb vb dw bC bs T Ts n depth next){j:Nat}{b:Nat×Nat}(hb:bs[j]?=some b)(hT:TabAt w' b.1 b.2 X)(hm:Mod S w w')(hS:∀q∈aW db rb fb eb vb ob og bC bs,q∈S->q=b.1\/q=b.2):pY w' db rb cap ob og fb cB eb vb dw bC bs T (Ts.set j X) n depth next:=by
 have hnd:=h.nd;unfold aW at hnd;simp only[qa,zt,Zs,not_or,yq]at hnd;obtain⟨⟨a1,a2,a3,a4,a5,a6,a7,a8⟩,⟨b2,b3,b4,b5,b6,b7,b8⟩,⟨c3,c4,c5,c6,c7,c8⟩,⟨d4,d5,d6,d7,d8⟩,⟨e5,e6,e7,e8⟩,⟨f6,f7,f8⟩,⟨g7,g8⟩,_,_,i8⟩:=hnd;have pX:=zE hb;have k1:b.1∈gT bs:=dV.2 ⟨b,pX,.inl rfl⟩;have k2:b.2∈gT bs:=dV.2 ⟨b,pX,.inr rfl⟩
 have key:∀q,q∈aW db rb fb eb vb ob og bC bs->(∀z∈gT bs,q≠z)->q∉S:=λq hq n1 hh=>by
  rcases hS q hq hh with e|e
  ·exact n1 _ k1 e
  ·exact n1 _ k2 e
 have fl:∀q:Nat,q∉gT bs->∀z∈gT bs,q≠z:=λq hq z hz e=>hq (e▸hz)
 refine⟨h.blk.mod hm (key _ (by simp[aW]) (fl _ a8)),h.row.mod hm (key _ (by simp[aW]) (fl _ b8)),λc hc=>(h.pq c hc).mod hm (key _ (Gl hc) (λz hz=>i8 c hc z hz)),h.fresh.mod hm (key _ (by simp[aW]) (fl _ c8)),
  h.ev.mod hm (key _ (by simp[aW]) (fl _ d8)) (key _ (by simp[aW]) (fl _ e8)),h.tab.mod hm (key _ (by simp[aW]) (fl _ f8)) (key _ (by simp[aW]) (fl _ g8)),
  ?_,h.pow,h.many,h.eq,h.deep,h.nd⟩
 refine⟨by rw[qq];exact h.tabs.len,λi c Y hc hY=> ?_,h.tabs.ne⟩;rw[qr]at hY;by_cases hij:j=i
 ·subst hij;rw[hb]at hc;cases hc;rw[if_pos rfl,if_pos (by rw[<-h.tabs.len];exact(zz.1 hb).1)]at hY;cases hY;exact hT
 ·rw[if_neg hij]at hY;obtain⟨m1,m2⟩:=iU (db:=db) (rb:=rb) (fb:=fb) (eb:=eb) (vb:=vb) (ob:=ob) (og:=og) (bC:=bC) (zE hc);have hne:=h.tabs.ne j i b c hb hc hij;refine(h.tabs.at_ i c Y hc hY).mod hm (λhh=> ?_) (λhh=> ?_)
  ·rcases hS _ m1 hh with e|e
   ·exact hne.1 e.symm
   ·exact hne.2.2.1 e.symm
  ·rcases hS _ m2 hh with e|e
   ·exact hne.2.1 e.symm
   ·exact hne.2.2.2 e.symm
end
section
variable {w w' : World} {nb : Nat} {F : List Nat} {N : Nd}
theorem bM.fC (h:bM w nb F N):∀q∈F,q<w.heap.size:=by
 unfold bM at h;split at h
 ·obtain⟨tb,gb,h1,h2,rfl,_⟩:=h;intro q hq;simp at hq;rcases hq with rfl|rfl|rfl
  ·exact h1.lt
  ·exact h2.aS
  ·exact h2.aT
 ·obtain⟨db,rb,cap,ob,og,bl,h1,h2,_,rfl,_⟩:=h;intro q hq;rcases zt.1 hq with rfl|hq
  ·exact h1.lt
  ·exact h2.fC q hq
 ·obtain⟨db,rb,cap,ob,og,fb,cB,eb,vb,dw,bC,bs,h1,h2,_,rfl,_⟩:=h;intro q hq;rcases zt.1 hq with rfl|hq
  ·exact h1.lt
  ·exact h2.fC q hq
theorem bM.Og (h:bM w nb F N):nb∈F:=by
 unfold bM at h;split at h
 ·obtain⟨tb,gb,h1,h2,rfl,_⟩:=h;simp
 ·obtain⟨db,rb,cap,ob,og,bl,h1,h2,_,rfl,_⟩:=h;simp
 ·obtain⟨db,rb,cap,ob,og,fb,cB,eb,vb,dw,bC,bs,h1,h2,_,rfl,_⟩:=h;simp
theorem bM.mod (h:bM w nb F N)(hm:Mod S w w')(hS:∀q∈F,q∉S):bM w' nb F N:=by
 unfold bM at h|-;split at h
 ·obtain⟨tb,gb,h1,h2,rfl,h3⟩:=h;exact⟨tb,gb,h1.mod hm (hS _ (by simp)),h2.mod hm (hS _ (by simp)) (hS _ (by simp)),rfl,h3⟩
 ·obtain⟨db,rb,cap,ob,og,bl,h1,h2,h3,rfl,h4⟩:=h;exact⟨db,rb,cap,ob,og,bl,h1.mod hm (hS _ (by simp)),h2.mod hm (λq hq=>hS q (by simp[hq])),h3,rfl,h4⟩
 ·obtain⟨db,rb,cap,ob,og,fb,cB,eb,vb,dw,bC,bs,h1,h2,h3,rfl,h4⟩:=h;exact⟨db,rb,cap,ob,og,fb,cB,eb,vb,dw,bC,bs,h1.mod hm (hS _ (by simp)),h2.mod hm (λq hq=>hS q (by simp[hq])),h3,rfl,h4⟩
theorem bM.below (h:bM w nb F N)(hb:Below w.heap.size w w'):bM w' nb F N:=h.mod (Mod.of_below hb []) (by simp)
theorem XA {X:aC}{s:Nat}(h:X.gs.length=N.T.gs.length):(N.qQ X s).each=N.each/\(N.qQ X s).many=N.many/\(N.qQ X s).dep=N.dep:=by
 have:(N.qQ X s).len=N.len:=h
 have h1:(N.qQ X s).each=N.each:=by unfold Nd.each;rw[this];rfl
 exact⟨h1,rfl,rfl⟩
end
def afX (N:Nd)(tb:Nat)(dv:Value):Array Value:=lY N tb dv
structure Whr (w:World)(H:Nat->Nat)(nb:Nat)(F:List Nat)(N:Nd)(P:MP)(x:bS)(c:bE)(key tX gX cnt:Nat)(TX:aC):Prop where
 tab:TabAt w tX gX TX
 inT:tX∈F
 Ml:gX∈F
 ne:nb≠tX/\nb≠gX
 tg:TG TX
 KJ:cnt<=128
 KL:(∃e∈N.ents,e.key=key/\e.hash=H key/\∃i s,(aJ TX.gs key (H key)).1=some (i,s)/\aH TX.gs i s= .full e)\/
  ((∀e∈N.ents,e.key≠key)/\(∀e∈aM TX.gs,e.key≠key)/\(aJ TX.gs key (H key)).1=none/\(N.sl=0->load TX+1<=7*TX.gs.length))
 swap:∀(w':World) (X:aC) (del add:List ay) (S:List Nat),TabAt w' tX gX X->Cn del add TX X->vR H N del add->(∀e∈add,e.hash=H key)->(del=[]->(aJ TX.gs key (H key)).1=none)->Mod S w w'->(∀q∈F,q∈S->q=tX\/q=gX)->∃N',bM w' nb F N'/\Wr H del add N N'
 call:(aj w nb 177 (lY N tX (.pointer none))/\cnt=(aJ TX.gs key (H key)).2.2)\/∃tb db,aj w nb 177 (lY N tb (pQ db))/\qW w db P x c key (H key) tX gX TX cnt
theorem xS (gs:Tab)(key hash:Nat):(aJ gs key hash).2.2<=gs.length:=AV _ _ _ _ _ _
theorem aec {del add:List ay}{N:Nd}(ha:vR H N del add)(hd:del≠[]):add.length<=del.length:=by
 rcases ha.one with h|⟨_,h,_⟩
 ·exact h
 ·exact absurd h hd
theorem vB {W0:World}{E:Nat->Addr}{nb:Nat}{F:List Nat}{N:Nd}{P:MP}{x:bS}{w:World}(c:bE)(key:Nat)(h:bM w nb F N)(ho:dY H N)(h64:H key<18446744073709551616)(hM:aN w P x)(hE:Env W0 E w)(hb0:W0.heap.size<=P.mb)(hF:P.mb∉F):
  ∃tX gX cnt TX,Whr w H nb F N P x c key tX gX cnt TX:=by
 have bV:=ho.ph;have hsl:=ho.sl;unfold lN at bV;unfold bM at h
 cases hp:N.ph with
 |idle=>
  rw[hp]at h bV;obtain⟨tb,gb,h1,h2,rfl,h3,h4⟩:=h;have hcnt:=xS N.T.gs key (H key);have aaP:=ho.pw.le;refine⟨tb,gb,(aJ N.T.gs key (H key)).2.2,N.T,h2,by simp,by simp,⟨h3,h4⟩,ho.tg,by unfold Nd.len at aaP;omega, ?_,λw' X del add S hX hc ha hh hd hm hS=> ?_,.inl ⟨h1,rfl⟩⟩
  ·rcases Mk (key:=key) ho (by rw[hp];rfl)with h5|⟨h5,h6⟩
   ·exact .inl h5
   ·exact .inr ⟨h5,λe he=>h5 e (jj _ he),h6,λh0=>Pz (n:=N.len) (k:=0) ho.pw ho.deep ho.big (Q4 _) (by have:=bV.2;omega)⟩
  ·refine⟨_, ?_,aaL ho ha hc (λTs next hh=>by rw[hp]at hh;cases hh)⟩;unfold bM;rw[show(N.qQ X (nC del add N.sl)).ph= .idle from hp];refine⟨tb,gb,h1.mod hm (λhh=> ?_),hX,rfl,h3,h4⟩;rcases hS nb (by simp) hh with e|e
   ·exact h3 e
   ·exact h4 e
 |nR k=>
  rw[hp]at h bV;obtain⟨db,rb,cap,ob,og,bl,h1,h2,h3,rfl,h4⟩:=h;have hcnt:=xS N.T.gs key (H key);have aaP:=ho.pw.le;obtain⟨kk1,kk2,kk3,kk4,_⟩:=gF ho.pw bV.1
  have nA:ob∈bL db rb ob og bl:=by simp[bL]
  have hog:og∈bL db rb ob og bl:=by simp[bL]
  have hdb:db∈bL db rb ob og bl:=by simp[bL]
  have hml:=hM.lt;simp only[zt,not_or]at hF;refine⟨ob,og,(aJ N.T.gs key (H key)).2.2,N.T,h2.tab,by simp[nA],by simp[hog],⟨λe=>h4 (e▸nA),λe=>h4 (e▸hog)⟩,ho.tg,by unfold Nd.len at aaP;omega, ?_,λw' X del add S hX hc ha hh hd hm hS=> ?_,.inr ⟨ob,db,h1,λV hV=>Nw db rb cap ob og bl N.T N.each N.dep k key (H key) P x c V (h2.mod (Mod.of_below hV []) (by simp)) ho.pw h64 (hM.below hV) (hE.next hV) hb0 ⟨λe=>hF.2 (e▸nA),λe=>hF.2 (e▸hog),λe=>hF.2 (e▸hdb)⟩⟩⟩
  ·rcases Mk (key:=key) ho (by rw[hp];rfl)with h5|⟨h5,h6⟩
   ·exact .inl h5
   ·exact .inr ⟨h5,λe he=>h5 e (jj _ he),h6,λh0=>Pz (n:=N.len) (k:=k) ho.pw ho.deep ho.big (by have:=bV.2.1;omega) (by have:=bV.2.2.1;rw[h0]at this;omega)⟩
  ·refine⟨_, ?_,aaL ho ha hc (λTs next hh=>by rw[hp]at hh;cases hh)⟩;obtain⟨e1,e2,e3⟩:=XA (N:=N) (s:=nC del add N.sl) hc.len;unfold bM;rw[show(N.qQ X (nC del add N.sl)).ph= .nR k from hp];refine⟨db,rb,cap,ob,og,bl,h1.mod hm (λhh=> ?_),by rw[e1,e3];exact h2.qQ hX hm (λq hq dS=>hS q (by simp[hq]) dS),h3,rfl,h4⟩;rcases hS nb (by simp) hh with e|e
   ·exact h4 (e▸nA)
   ·exact h4 (e▸hog)
 |jq Ts next=>
  rw[hp]at h bV;obtain⟨db,rb,cap,ob,og,fb,cB,eb,vb,dw,bC,bs,h1,h2,h3,rfl,h4⟩:=h;obtain⟨g1,g2,g3,g4,g5⟩:=bV;obtain⟨kk1,kk2,kk3,kk4,_⟩:=gF ho.pw g1
  have nA:ob∈aW db rb fb eb vb ob og bC bs:=by simp[aW]
  have hog:og∈aW db rb fb eb vb ob og bC bs:=by simp[aW]
  simp only[zt,not_or]at hF;obtain⟨Tx,hTx,hw⟩:=Xz (key:=key) ho hp;obtain⟨b,hb⟩:∃b,bs[dJ N.many N.au (H key)]?=some b:=⟨_,zg (by rw[h2.tabs.len];exact(zz.1 hTx).1)⟩;obtain⟨m1,m2⟩:=iU (db:=db) (rb:=rb) (fb:=fb) (eb:=eb) (vb:=vb) (ob:=ob) (og:=og) (bC:=bC) (zE hb);obtain⟨tx1,tx2⟩:=g3.tg _ _ hTx;have hcx:=xS Tx.gs key (H key);have hco:=xS N.T.gs key (H key);have hl1:=kk1.le;have hl2:=ho.pw.le;unfold Nd.len at hl2
  have hsd:dJ N.many N.au (H key)=dJ bs.length N.dep (H key):=by rw[h3,aaO]
  have U5:=λ(tX gX cnt:Nat) (TX:aC) hga (V:World) (hV:Below w.heap.size w V)=>Ny db rb cap ob og fb cB eb vb dw bC bs N.T Ts N.each N.dep next key (H key) _ b Tx P x c V (h2.mod (Mod.of_below hV []) (by simp)) hsd hb hTx ho.pw (by rw[tx2];exact kk1) h64 (hM.below hV) (hE.next hV) hb0 hF.2 tX gX cnt TX hga
  have hLF:∀(w':World) (X:aC) (del add:List ay) (S:List Nat),TabAt w' b.1 b.2 X->Cn del add Tx X->vR H N del add->(∀e∈add,e.hash=H key)->Mod S w w'->(∀q∈nb::aW db rb fb eb vb ob og bC bs,q∈S->q=b.1\/q=b.2)->∃N',bM w' nb (nb::aW db rb fb eb vb ob og bC bs) N'/\Wr H del add N N':=λw' X del add S hX hc ha hh hm hS=>by
   refine⟨_, ?_,agm ho hp hTx ha hc (λe he=>by rw[hh e he])⟩;unfold bM;rw[show(N.PD Ts next (dJ N.many N.au (H key)) X (nC del add N.sl)).ph= .jq (Ts.set (dJ N.many N.au (H key)) X) next from rfl];refine⟨db,rb,cap,ob,og,fb,cB,eb,vb,dw,bC,bs,h1.mod hm (λhh=> ?_),h2.PD hb hX hm (λq hq dS=>hS q (by simp[hq]) dS),h3,rfl,h4⟩;rcases hS nb (by simp) hh with e|e
   ·exact h4 (e▸m1)
   ·exact h4 (e▸m2)
  rcases hw with⟨e,he,hek,heh,⟨heT,i,s,hs1,hs2⟩|⟨hn,i,s,hs1,hs2⟩⟩|⟨hn,hs1,hs2⟩
  ·refine⟨b.1,b.2,(aJ Tx.gs key (H key)).2.2,Tx,h2.tabs.at_ _ _ _ hb hTx,by simp[m1],by simp[m2],⟨λe=>h4 (e▸m1),λe=>h4 (e▸m2)⟩,tx1,by omega,.inl ⟨e,he,hek,heh,i,s,hs1,hs2⟩,λw' X del add S hX hc ha hh hd hm hS=>hLF w' X del add S hX hc ha hh hm hS,.inr ⟨ob,db,h1,U5 _ _ _ _ ?_⟩⟩;rw[hs1];exact⟨rfl,rfl,rfl,rfl⟩
  ·refine⟨ob,og,(aJ Tx.gs key (H key)).2.2+(aJ N.T.gs key (H key)).2.2,N.T,h2.tab,by simp[nA],by simp[hog],⟨λe=>h4 (e▸nA),λe=>h4 (e▸hog)⟩,ho.tg, ?_,.inl ⟨e,he,hek,heh,i,s,hs1,hs2⟩,λw' X del add S hX hc ha hh hd hm hS=> ?_,.inr ⟨ob,db,h1,U5 _ _ ((aJ Tx.gs key (H key)).2.2+(aJ N.T.gs key (H key)).2.2) _ ?_⟩⟩
   ·omega
   ·have hd':del≠[]:=λe=>by rw[hd e]at hs1;cases hs1
    refine⟨_, ?_,aaL ho ha hc (λTs next hh=>⟨hd',aec ha hd'⟩)⟩;obtain⟨e1,e2,e3⟩:=XA (N:=N) (s:=nC del add N.sl) hc.len;unfold bM;rw[show(N.qQ X (nC del add N.sl)).ph= .jq Ts next from hp];refine⟨db,rb,cap,ob,og,fb,cB,eb,vb,dw,bC,bs,h1.mod hm (λhh=> ?_),by rw[e1,e3];exact h2.qQ hX hm (λq hq dS=>hS q (by simp[hq]) dS),h3,rfl,h4⟩;rcases hS nb (by simp) hh with e|e
    ·exact h4 (e▸nA)
    ·exact h4 (e▸hog)
   ·rw[hn,hs1];exact⟨rfl,rfl,rfl,rfl⟩
  ·refine⟨b.1,b.2,(aJ Tx.gs key (H key)).2.2+(aJ N.T.gs key (H key)).2.2,Tx,h2.tabs.at_ _ _ _ hb hTx,by simp[m1],by simp[m2],⟨λe=>h4 (e▸m1),λe=>h4 (e▸m2)⟩,tx1,by omega,.inr ⟨hn,λe he=>hn e ?_,hs1,λh0=> ?_⟩,λw' X del add S hX hc ha hh hd hm hS=>hLF w' X del add S hX hc ha hh hm hS,.inr ⟨ob,db,h1,U5 _ _ _ _ ?_⟩⟩
   ·unfold Nd.ents;rw[hp];exact yi _ (oM.2 ⟨_,_,hTx,he⟩)
   ·have hB:=Jz ho.pw ho.deep ho.big g1 (s:=N.each*N.many+next+N.sl) (by omega);have:=Tc hTx;rw[tx2];omega
   ·rw[hs1,hs2];exact⟨rfl,rfl,rfl,rfl⟩
end
section
def intCells (l:List Nat):Array Value:=(l.map λn:Nat=>Value.int .i64 (n:Int)).toArray
theorem yY (l:List Nat)(i n:Nat):(intCells l).setIfInBounds i (.int .i64 (n:Int))=intCells (l.set i n):=by
 unfold intCells;rw[yW,List.map_set]
theorem He:(Tryz.prog.info? 3).map (λi=>(i.zero,i.size,i.bytes))=some (some (.int .i64 0),1,8):=by kernel_rfl
theorem Mr (n:Nat)(hn:n<=65536)(W:World):(Instr.makeSlice 178 (.int .i64 (n:Int)) (.int .i64 (n:Int))).run Tryz.prog W= .ok (.slice (some ⟨W.heap.size,0,none⟩) n n) (W.alloc (.cells (intCells (List.replicate n 0)) 3)):=by
 obtain⟨i,hi,hz0,hz1,hz2⟩:=info_parts He;have:=run_makeSlice (P:=Tryz.prog) (w:=W) 178 3 i (.int .i64 0) Tryz.underlying178 hi hz0 .i64 .i64 (n:Int) (n:Int) (by omega) (Int.le_refl _) (by rw[hz1];omega) (by rw[hz2];omega) (by omega);rw[this,hz1,vm]
 have e:madeCells (Value.int .i64 0).cells (n*1)=intCells (List.replicate n 0):=by
  rw[Ci (z:=(Value.int .i64 0).cells) (k:=1) (v:= .int .i64 0) rfl (by omega),Nat.mul_one];unfold intCells;rw[List.map_replicate];rfl
 rw[e]
structure dH (w:World)(db eb d:Nat)(l:List Nat):Prop where
 blk:aj w db 180 #[.int .i64 (d:Int),.slice (some ⟨eb,0,none⟩) l.length l.length]
 row:aj w eb 3 (intCells l)
 len:l.length=2^d
 le:d<=5
 ne:db≠eb
section
variable {w w' : World} {db eb d : Nat} {l : List Nat}
theorem dH.mod {S:List Nat}(h:dH w db eb d l)(hm:Mod S w w')(h1:db∉S)(h2:eb∉S):dH w' db eb d l:=⟨h.blk.mod hm h1,h.row.mod hm h2,h.len,h.le,h.ne⟩
instance {w w':World}{db eb d:Nat}{l:List Nat}:Md (dH w db eb d l) w w' (dH w' db eb d l) (λS=>db∉S/\eb∉S):=⟨λh hm hs=>h.mod hm hs.1 hs.2⟩
theorem dH.lt (h:dH w db eb d l):db<w.heap.size:=h.blk.lt
theorem dH.Ms (h:dH w db eb d l):eb<w.heap.size:=h.row.lt
theorem dH.cells (h:dH w db eb d l):w.cell? ⟨db,0,none⟩=some (.int .i64 (d:Int))/\w.cell? ⟨db,1,none⟩=some (.slice (some ⟨eb,0,none⟩) l.length l.length):=⟨h.blk.cell 0,h.blk.cell 1⟩
theorem dH.entry (h:dH w db eb d l){i:Nat}(hi:i<l.length):w.cell? ⟨eb,i,none⟩=some (.int .i64 ((l.getD i 0:Nat):Int)):=by
 rw[h.row.cell i];unfold intCells;rw[zr,Q3,zv,zg hi];rfl
theorem dH.ak (h:dH w db eb d l)(i n:Nat):dH (w.setCell ⟨eb,i,none⟩ (.int .i64 (n:Int))) db eb d (l.set i n):=by
 refine⟨?_, ?_,by rw[qq];exact h.len,h.le,h.ne⟩
 ·rw[qq];exact h.blk.far (p:=⟨eb,i,none⟩) h.ne _
 ·have:=h.row.ak i (.int .i64 (n:Int))
  rwa [yY]at this
theorem dH.small (h:dH w db eb d l):l.length<=32:=by
 rw[h.len];have:=xa (n:=2) (by omega) h.le;omega
end
def jf (b:Nat):Value:=pQ b
theorem Tf (d:Nat)(hd:d<=5)(w:World):
  Calls Tryz.prog 62 #[.int .i64 (d:Int)] w λe w'=>e= .returned (.tuple #[jf (w.heap.size+1),.nilIface])/\dH w' (w.heap.size+1) w.heap.size d (List.replicate (2^d) 0)/\Below w.heap.size w w':=by
 have hpw:2^d<=32:=by have:=xa (n:=2) (by omega) hd;omega
 have e:((2:Int)^d)=((2^d:Nat):Int):=by simp
 have h1:¬(d:Int)<0:=by omega
 have h2:¬(d:Int)>5:=by omega
 have h3:(2:Int)^d<=65536:=by rw[e];omega
 have h4:(0:Int)<=2^d:=by rw[e];exact Int.natCast_nonneg _
 have h5:(d:Int)<=64:=by omega
 have hmk:=Mr (2^d) (by omega) w;rw[<-e]at hmk
 have HE:=qd (show dH ((w.alloc (.cells (intCells (List.replicate (2^d) 0)) 3)).alloc (.cells #[.int .i64 (d:Int),.slice (some ⟨w.heap.size,0,none⟩) (2^d) (2^d)] 180)) (w.heap.size+1) w.heap.size d (List.replicate (2^d) 0)from by
  refine⟨?_,(aj.new w _ _).alloc _,by simp,hd,by omega⟩;have:=aj.new (w.alloc (.cells (intCells (List.replicate (2^d) 0)) 3)) 180 #[.int .i64 (d:Int),.slice (some ⟨w.heap.size,0,none⟩) (2^d) (2^d)];rw[xN]at this;rw[List.length_replicate]
  exact this)
 clear e hpw hd;unfold jf;go_in;go_wp2;refine bodyPost_ret (v:= .tuple #[.pointer (some ⟨w.heap.size+1,0,none⟩),.nilIface]) (by simp[results,Tryz.results62,go_sem]) rfl ⟨rfl,HE.o, ?_⟩;exact((Below.refl _ _).alloc (zb _) _).alloc (by simp) _
theorem Mt (db eb d:Nat)(l:List Nat)(w:World)(h:dH w db eb d l):Calls Tryz.prog 126 #[jf db] w λe w'=>e= .returned (.int .i64 (d:Int))/\w=w':=by
 obtain⟨c0,c1⟩:=h.cells;clear h;unfold jf;go_in;go_wp2;go_ret;exact⟨rfl,rfl⟩
theorem ac6 (db eb d:Nat)(l:List Nat)(w:World)(h:dH w db eb d l):Calls Tryz.prog 239 #[jf db] w λe w'=>e= .returned (.int .i64 (l.length:Int))/\w=w':=by
 obtain⟨c0,c1⟩:=h.cells;clear h;unfold jf;go_in;go_wp2;go_ret;exact⟨rfl,rfl⟩
theorem aed (db eb d:Nat)(l:List Nat)(hash:Nat)(h64:hash<18446744073709551616)(w:World)(h:dH w db eb d l):Calls Tryz.prog 109 #[jf db,nU hash] w λe w'=>e= .returned (.int .i64 ((l.getD (eu hash d) 0:Nat):Int))/\w.drew=w':=by
 have hls:=h.len;have hle:=h.le;have htl:=BS (d:=d) h64 (by omega)
 have hti:eu hash d<l.length:=by omega
 have ce:=h.entry hti;have Bw:=qd (Lf hash d h64 (by omega) w.drew);generalize eu hash d=tp at*
 have aia:(tp:Int)<(l.length:Int):=by omega
 have aib:(0:Int)<=(tp:Int):=by omega
 have O1:=qd (vk (tp:Int) w.drew);obtain⟨v,hv⟩:∃v,v=l.getD tp 0:=⟨_,rfl⟩;rw[<-hv]at ce|-;obtain⟨c0,c1⟩:=h.cells;clear h hls hle htl hv;unfold jf;go_in;go_upto_region 1 with fail;refine rT (λ(w':World)=>w'.cell? ⟨db,0,none⟩=some (.int .i64 (d:Int))/\w'.cell? ⟨db,1,none⟩=some (.slice (some ⟨eb,0,none⟩) l.length l.length)/\w'.cell? ⟨eb,tp,none⟩=some (.int .i64 (v:Int))) [] ?_;have hHeld:=(⟨c0,c1,ce⟩:_/\_/\_);refine vW 0 rfl ?_;refine vW 1 rfl ?_;refine vW 2 rfl ?_;refine vT 3 rfl ?_;refine vW 4 rfl ?_;refine vW 5 rfl ?_;refine vW 6 rfl ?_;refine vW 7 rfl ?_;refine vT 8 rfl ?_;refine nT 9 rfl λK hK=> ?_;go_simp;refine(Bw.o).mono ?_;rintro y w1 ⟨rfl,rfl⟩;go_wp2_with fail;have hHeld:=(⟨c0,c1,ce⟩:_/\_/\_);refine kO hK ?_;clear hK K;refine vW 10 rfl ?_;refine vW 11 rfl ?_;refine nT 12 rfl λK hK=> ?_;go_simp;refine(O1.o).mono ?_;rintro y w1 ⟨rfl,rfl⟩;go_wp2_with fail;have hHeld:=(⟨c0,c1,ce⟩:_/\_/\_);refine kO hK ?_;clear hK K;refine vW 13 rfl ?_;refine vT 14 rfl ?_;refine vW 15 rfl ?_;refine aV (by kernel_rfl) ?_ _;go_wp2;go_ret;exact⟨rfl,rfl⟩
theorem Mv (db eb d:Nat)(l:List Nat)(i:Nat)(hi:i<l.length)(w:World)(h:dH w db eb d l):Calls Tryz.prog 253 #[jf db,.int .i64 (i:Int)] w λe w'=>e= .returned (.tuple #[.int .i64 ((l.getD i 0:Nat):Int),.nilIface])/\w=w':=by
 have hi0:¬(i:Int)<0:=by omega
 have hi1:(0:Int)<=(i:Int):=by omega
 have hi2:(i:Int)<(l.length:Int):=by omega
 have ce:=h.entry hi;obtain⟨v,hv⟩:∃v,v=l.getD i 0:=⟨_,rfl⟩;rw[<-hv]at ce|-;obtain⟨c0,c1⟩:=h.cells;clear h hv;unfold jf;go_in;go_wp2;refine bodyPost_ret (v:= .tuple #[.int .i64 (v:Int),.nilIface]) (by simp[results,Tryz.results253,go_sem]) rfl ⟨rfl,rfl⟩
theorem ac7 (db eb d:Nat)(l:List Nat)(i id:Nat)(hi:i<l.length)(w:World)(h:dH w db eb d l):Calls Tryz.prog 254 #[jf db,.int .i64 (i:Int),.int .i64 (id:Int)] w λe w'=>e= .returned .nilIface/\dH w' db eb d (l.set i id)/\Mod [eb] w w':=by
 have hi1:(0:Int)<=(i:Int):=by omega
 have hi2:(i:Int)<(l.length:Int):=by omega
 have hid:¬(id:Int)<0:=by omega
 have ce:=h.entry hi;have fe:=h.row.frozen i;have bI:=qd (Mv db eb d l i hi w h);have HS:=qd (And.intro (h.ak i id) ((Mod.refl [eb] w).sl i (.int .i64 (id:Int))));obtain⟨v,hv⟩:∃v,v=l.getD i 0:=⟨_,rfl⟩;rw[<-hv]at ce bI;obtain⟨c0,c1⟩:=h.cells;clear h hv;unfold jf at bI|-;go_in;go_wp2_with fail;refine(bI.o).mono ?_;rintro y w1 ⟨rfl,rfl⟩;go_wp2;go_ret;exact⟨rfl,HS.o⟩
end
def dA (p pd d:Nat):Nat:=p*2^(d-pd)
theorem ac8 {p pd d:Nat}(h1:pd<=d)(h2:d<=5):eu (oK p pd) d=dA p pd d:=by
 unfold eu oK dA;rw[show 64-pd=(d-pd)+(64-d) by omega,Nat.pow_add,<-Nat.mul_assoc,Nat.mul_div_cancel _ (vh _)]
theorem Fv {p pd d:Nat}(h1:pd<=d)(hp:p<2^pd):dA p pd d+2^(d-pd)<=2^d:=by
 unfold dA;have:(p+1)*2^(d-pd)<=2^pd*2^(d-pd):=xt _ hp;rw[<-Nat.pow_add,show pd+(d-pd)=d by omega,Nat.add_mul,Nat.one_mul]at this;exact this
def j6 (l:List Nat)(fr id:Nat):Nat->List Nat
 |0=>l
 |j+1=>(j6 l fr id j).set (fr+j) id
theorem mY (l:List Nat)(fr id:Nat):∀j,(j6 l fr id j).length=l.length
 |0=>rfl
 |j+1=>by unfold j6;rw[qq,mY l fr id j]
theorem PI (db eb d:Nat)(l:List Nat)(p pd:Nat)(h1:pd<=d)(hp:p<2^pd)(w:World)(h:dH w db eb d l):
  Calls Tryz.prog 241 #[jf db,nI p,nI pd] w λe w'=>e= .returned (.tuple #[.int .i64 ((dA p pd d:Nat):Int),.int .i64 ((dA p pd d+2^(d-pd):Nat):Int),.nilIface])/\w.drew=w':=by
 have hd5:=h.le;have hlt:=BU (p:=p) (d:=pd) (by omega) hp;have hpos:=vh (64-pd);have hft:=Fv h1 hp
 have hpw:2^d<=32:=by have:=xa (n:=2) (by omega) hd5;omega
 have Dk:=qd (λV:World=>DI p pd (by omega) hp V);have Bw:=qd (λV:World=>Lf (oK p pd) d (by omega) (by omega) V);rw[ac8 h1 hd5]at Bw;obtain⟨fr,hfr⟩:∃fr,fr=dA p pd d:=⟨_,rfl⟩;rw[<-hfr]at hft Bw|-;obtain⟨k,hk⟩:∃k,k=d-pd:=⟨_,rfl⟩;rw[<-hk]at hft|-
 have e2:((2:Int)^k)=((2^k:Nat):Int):=by simp
 have k0:(k:Int)<=64:=by omega
 have k1:(0:Int)<=(k:Int):=by omega
 have k2:(2:Int)^k<=65536:=by rw[e2];omega
 have k3:(0:Int)<=2^k:=by rw[e2];exact Int.natCast_nonneg _
 have hgt:¬(pd:Int)>(d:Int):=by omega
 have hw1:IntKind.i64.wrap ((d:Int)-(pd:Int))=(k:Int):=by rw[ZZ];omega
 have hw2:IntKind.i64.wrap ((fr:Int)+(2:Int)^k)=(fr:Int)+(2:Int)^k:=by rw[ZZ,e2];omega
 have hw3:IntKind.i64.wrap ((2:Int)^k)=(2:Int)^k:=by rw[ZZ,e2];omega
 have hto:(fr:Int)+(2:Int)^k=((fr+2^k:Nat):Int):=by rw[e2];omega
 have HTo:=qd hto;have O1:=qd (vk (fr:Int));obtain⟨c0,c1⟩:=h.cells;clear h hlt hpos hft hpw hfr hk e2 hto hd5 hp h1;unfold jf;go_in;go_wp2_with fail;refine(Dk.o _).mono ?_;rintro y w1 ⟨rfl,rfl⟩;go_wp2_with fail;refine(Bw.o _).mono ?_;rintro y w1 ⟨rfl,rfl⟩;go_wp2_with fail;refine(O1.o _).mono ?_;rintro y w1 ⟨rfl,rfl⟩;go_upto_region 7 with fail;refine rT (λ(w':World)=>w'.cell? ⟨db,0,none⟩=some (nI d)) [] ?_;have hHeld:=c0;refine vW 0 rfl ?_;refine vW 1 rfl ?_;refine vW 2 rfl ?_;refine vW 3 rfl ?_;refine vW 4 rfl ?_;refine vT 5 rfl ?_;refine vW 6 rfl ?_;refine vW 7 rfl ?_;refine vW 8 rfl ?_;refine vW 9 rfl ?_;refine vW 10 rfl ?_;refine vW 11 rfl ?_;refine vW 12 rfl ?_;refine aV (by kernel_rfl) ?_ _;go_wp2;refine bodyPost_ret (v:= .tuple #[nI fr,.int .i64 ((fr:Int)+(2:Int)^k),.nilIface]) (by simp[results,Tryz.results241,go_sem]) rfl ⟨by rw[HTo.o],rfl⟩
theorem Tg (db eb d:Nat)(l:List Nat)(p pd:Nat)(h1:pd<=d)(hp:p<2^pd)(id:Nat)(w:World)(h:dH w db eb d l):
  Calls Tryz.prog 221 #[jf db,nI p,nI pd,nI id] w λe w'=>e= .returned (.tuple #[.int .i64 ((2^(d-pd):Nat):Int),.nilIface])/\dH w' db eb d (j6 l (dA p pd d) id (2^(d-pd)))/\Mod [eb] w w':=by
 have hft:=Fv h1 hp;have hlen:=h.len;have hls:=h.small;have Dl:=qd (PI db eb d l p pd h1 hp w h);obtain⟨fr,hfr⟩:∃fr,fr=dA p pd d:=⟨_,rfl⟩;obtain⟨n,hn⟩:∃n,n=2^(d-pd):=⟨_,rfl⟩;rw[<-hfr,<-hn]at hft Dl|-
 have hin:fr+n<=l.length:=by omega
 have hnp:0<n:=by rw[hn];exact vh _
 have hne1:¬l.length=fr:=by omega
 have hfn:(fr:Int)<=((fr+n:Nat):Int):=by omega
 have hfl:((fr+n:Nat):Int)<=(l.length:Int):=by omega
 have hf0:(0:Int)<=(fr:Int):=by omega
 have hid:¬(id:Int)<0:=by omega
 have hsub:((fr+n:Nat):Int)-(fr:Int)=(n:Int):=by omega
 have HD:=qd (h.mod (Mod.drewN [] w 1) (by simp) (by simp));obtain⟨c0,c1⟩:=h.cells;clear h hfr hn hft hlen hp h1;unfold jf at Dl|-;go_in;go_wp2_with fail;refine(Dl.o).mono ?_;rintro y w1 ⟨rfl,hw1⟩;obtain⟨c0,c1⟩:=HD.o.cells;rw[show w.drewN 1=w.drew from rfl,hw1]at c0 c1;go_wp2;have HD1:=qd (show dH w1 db eb d l from hw1▸HD.o);have Hm1:=qd (show Mod [eb] w w1 from hw1▸Mod.drewN [eb] w 1);clear hw1 HD c0 c1;go_loopw [13,38] (λ_ i wr=>∃j:Nat,j<=n/\i= .int .i64 j/\dH wr db eb d (j6 l fr id j)/\Mod [eb] w wr) (λ_ i _=>n-(intOf i).toNat)
 case atStart=>exact⟨0,by omega,rfl,HD1.o,Hm1.o⟩
 case round=>
  clear HD1 Hm1;obtain⟨j,hj,rfl,hD,hm⟩:=hrel;by_cases hlt:j<n
  ·have hlt':(j:Int)<(n:Int):=by omega
   have hj0:(0:Int)<=(j:Int):=by omega
   have hln:(j6 l fr id j).length=l.length:=mY l fr id j
   have hfj:fr+j<(j6 l fr id j).length:=by omega
   have ce:=hD.entry hfj;have fe:=hD.row.frozen (fr+j);have HS:=qd (And.intro (hD.ak (fr+j) id) (hm.sl (fr+j) (nI id)));obtain⟨c0,c1⟩:=hD.cells;rw[hln]at c1;obtain⟨v,hv⟩:∃v,v=(j6 l fr id j).getD (fr+j) 0:=⟨_,rfl⟩;rw[<-hv]at ce
   have hwr:IntKind.i64.wrap ((fr:Int)+(j:Int))=(fr:Int)+(j:Int):=by rw[ZZ];omega
   have hs3:(fr:Int)+(j:Int)<(l.length:Int):=by omega
   have hs4:((fr:Int)+(j:Int)).toNat=fr+j:=by omega
   have hs5:(0:Int)<=(fr:Int)+(j:Int):=by omega
   clear hD hm hv hln hfj;go_wp2;go_roundw
   case rel=>exact⟨j+1,by omega,by go_num,HS.o⟩
   case measure=>simp[intOf];omega
  ·obtain rfl:j=n:=by omega
   have hlt':¬(j:Int)<(j:Int):=by omega
   have HF:=qd (And.intro hD hm);clear hD hm;go_wp2;refine bodyPost_ret (v:= .tuple #[.int .i64 ((fr:Int)+(j:Int)-(fr:Int)),.nilIface]) (by simp[results,Tryz.results221,go_sem]) rfl ⟨by rw[show(fr:Int)+(j:Int)-(fr:Int)=(j:Int) by omega],HF.o⟩
