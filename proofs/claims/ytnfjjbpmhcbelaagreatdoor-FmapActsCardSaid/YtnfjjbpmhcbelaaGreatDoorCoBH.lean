/- A node in the heap, in every phase of its job: where it lies, which table a key's write goes to. -/
import Derived.Test.YtnfjjbpmhcbelaaGreatDoorCoCA
import Derived.Test.YtnfjjbpmhcbelaaGreatDoorSqM
import Derived.Test.YtnfjjbpmhcbelaaGreatDoorGaugeA
import Derived.Test.YtnfjjbpmhcbelaaGreatDoorCoBY
import Derived.Test.YtnfjjbpmhcbelaaGreatDoorAppAny
namespace Go.Proofs.YtnfjjbpmhcbelaaGreatDoor
set_option maxRecDepth 100000
set_option maxHeartbeats 4000000
open Go.RowKit dI
section
variable {S : List Nat} {H : Nat → Nat}
def Nd.dep (N:Nd):Nat:=if N.many=1 then 0 else N.au
theorem Ze (N:Nd)(h:Nat):dB N.many N.dep h=dB N.many N.au h:=by
 unfold Nd.dep dB
 split<;>rfl
def kS (N:Nd)(tb:Nat)(dv:Value):Array Value:= #[nI N.pfx,nI N.au,pQ tb,nI N.kind,dv]
def bJ (w:World)(nb:Nat)(F:List Nat)(N:Nd):Prop:=match N.ph with
 | .idle=>∃tb gb,aj w nb 189 (kS N tb (.pointer none))∧TabAt w tb gb N.T∧F=[nb,tb,gb]∧nb≠tb∧nb≠gb
 | .nW k=>∃db rb cap ob og bl,aj w nb 189 (kS N ob (pQ db))∧vJ w db rb cap ob og bl N.T N.each N.dep k∧bl.length=N.many∧F=nb::bH db rb ob og bl∧nb∉bH db rb ob og bl
 | .iY Ts next=>∃db rb cap ob og fb bY eb vb cK bI bs,aj w nb 189 (kS N ob (pQ db))∧oW w db rb cap ob og fb bY eb vb cK bI bs N.T Ts N.each N.dep next∧bs.length=N.many∧F=nb::aW db rb fb eb vb ob og bI bs∧nb∉aW db rb fb eb vb ob og bI bs
section
variable {w w' : World} {db rb cap ob og fb bY eb vb cK : Nat} {bl : List (Nat × Nat × Nat)} {bI : List Nat} {bs : List (Nat × Nat)} {T X : aC} {Ts : List aC} {n depth k next : Nat}
theorem vJ.gI (h:vJ w db rb cap ob og bl T n depth k):∀q∈bH db rb ob og bl,q<w.heap.size:=by
 intro q hq;unfold bH at hq;simp only[List.mem_cons,List.mem_flatMap]at hq;rcases hq with rfl|rfl|rfl|rfl|⟨b,hb,hq⟩
 ·exact h.blk.lt
 ·exact h.row.lt
 ·exact h.tab.aT
 ·exact h.tab.aU
 ·obtain⟨i,hi⟩:=List.getElem?_of_mem hb;have:=h.qw i b hi;simp at hq;rcases hq with rfl|rfl|rfl
  ·exact this.lt
  ·exact this.aT
  ·exact this.aU
theorem oW.gI (h:oW w db rb cap ob og fb bY eb vb cK bI bs T Ts n depth next):∀q∈aW db rb fb eb vb ob og bI bs,q<w.heap.size:=by
 intro q hq;unfold aW at hq;simp only[List.mem_cons,List.mem_append,dM]at hq;rcases hq with rfl|rfl|rfl|rfl|rfl|rfl|rfl|hq|⟨b,hb,hq⟩
 ·exact h.blk.lt
 ·exact h.row.lt
 ·exact h.fresh.lt
 ·exact h.ev.lt
 ·exact h.ev.qc
 ·exact h.tab.aT
 ·exact h.tab.aU
 ·exact(h.qw q hq).lt
 ·obtain⟨i,hi⟩:=List.getElem?_of_mem hb;obtain⟨T',hT'⟩:∃T',Ts[i]?=some T':=⟨_,List.getElem?_eq_getElem (by rw[←h.tabs.len];exact(List.getElem?_eq_some_iff.1 hi).1)⟩;have:=h.tabs.at_ i b T' hi hT';rcases hq with rfl|rfl
  ·exact this.aT
  ·exact this.aU
theorem vJ.qx (h:vJ w db rb cap ob og bl T n depth k)(hT:TabAt w' ob og X)(hm:Mod S w w')(hS:∀q∈bH db rb ob og bl,q∈S→q=ob∨q=og):vJ w' db rb cap ob og bl X n depth k:=by
 have hnd:=h.nd;unfold bH at hnd;simp only[List.nodup_cons,List.mem_cons,List.mem_flatMap,not_or]at hnd;obtain⟨⟨h1,h2,h3,_⟩,⟨h4,h5,h6⟩,⟨h7,h8⟩,h9,_⟩:=hnd;refine⟨h.blk.mod hm (fun hh=> ?_),h.row.mod hm (fun hh=> ?_),fun i b hb=> ?_,hT,h.pow,h.many,h.lt,h.deep,h.nd⟩
 ·rcases hS _ (by simp[bH]) hh with e|e
  ·exact h2 e
  ·exact h3 e
 ·rcases hS _ (by simp[bH]) hh with e|e
  ·exact h4 e
  ·exact h5 e
 ·have oV:=List.mem_of_getElem? hb;obtain⟨m1,m2,m3⟩:=vK (db:=db) (rb:=rb) (ob:=ob) (og:=og) oV;have hne:∀q∈[b.1,b.2.1,b.2.2],q≠ob∧q≠og:=fun q hq=>⟨fun e=>h8 ⟨b,oV,by have h:=e▸hq;simpa using h⟩,fun e=>h9 ⟨b,oV,by have h:=e▸hq;simpa using h⟩⟩;refine(h.qw i b hb).mod hm (fun hh=> ?_) (fun hh=> ?_) (fun hh=> ?_)
  ·rcases hS _ m1 hh with e|e
   ·exact(hne _ (by simp)).1 e
   ·exact(hne _ (by simp)).2 e
  ·rcases hS _ m2 hh with e|e
   ·exact(hne _ (by simp)).1 e
   ·exact(hne _ (by simp)).2 e
  ·rcases hS _ m3 hh with e|e
   ·exact(hne _ (by simp)).1 e
   ·exact(hne _ (by simp)).2 e
theorem Fq {q:Nat}(h:q∈bI):q∈aW db rb fb eb vb ob og bI bs:=by unfold aW;simp[h]
theorem oW.qx (h:oW w db rb cap ob og fb bY eb vb cK bI bs T Ts n depth next)(hT:TabAt w' ob og X)(hm:Mod S w w')(hS:∀q∈aW db rb fb eb vb ob og bI bs,q∈S→q=ob∨q=og):oW w' db rb cap ob og fb bY eb vb cK bI bs X Ts n depth next:=by
 have hnd:=h.nd;unfold aW at hnd;simp only[List.nodup_cons,List.mem_cons,List.mem_append,not_or]at hnd;obtain⟨⟨a1,a2,a3,a4,a5,a6,a7,a8⟩,⟨b2,b3,b4,b5,b6,b7,b8⟩,⟨c3,c4,c5,c6,c7,c8⟩,⟨d4,d5,d6,d7,d8⟩,⟨e5,e6,e7,e8⟩,⟨f6,f7,f8⟩,⟨g7,g8⟩,_⟩:=hnd
 have key:∀q,q∈aW db rb fb eb vb ob og bI bs→q≠ob→q≠og→q∉S:=fun q hq n1 n2 hh=>by
  rcases hS q hq hh with e|e
  ·exact n1 e
  ·exact n2 e
 refine⟨h.blk.mod hm (key _ (by simp[aW]) a5 a6),h.row.mod hm (key _ (by simp[aW]) b5 b6),fun b hb=>(h.qw b hb).mod hm (key _ (Fq hb) (fun e=>f7 (e▸hb)) (fun e=>g7 (e▸hb))),h.fresh.mod hm (key _ (by simp[aW]) c5 c6),
  h.ev.mod hm (key _ (by simp[aW]) d5 d6) (key _ (by simp[aW]) e5 e6),hT,h.tabs.mod hm (fun b hb=> ?_),h.pow,h.many,h.eq,h.deep,h.nd⟩
 obtain⟨m1,m2⟩:=iA (db:=db) (rb:=rb) (fb:=fb) (eb:=eb) (vb:=vb) (ob:=ob) (og:=og) (bI:=bI) hb;exact⟨key _ m1 (fun e=>f8 (e▸dM.2 ⟨b,hb,.inl rfl⟩)) (fun e=>g8 (e▸dM.2 ⟨b,hb,.inl rfl⟩)),key _ m2 (fun e=>f8 (e▸dM.2 ⟨b,hb,.inr rfl⟩)) (fun e=>g8 (e▸dM.2 ⟨b,hb,.inr rfl⟩))⟩
theorem oW.Oi (h:oW w db rb cap ob og fb bY eb vb cK bI bs T Ts n depth next){j:Nat}{b:Nat×Nat}(hb:bs[j]?=some b)(hT:TabAt w' b.1 b.2 X)(hm:Mod S w w')(hS:∀q∈aW db rb fb eb vb ob og bI bs,q∈S→q=b.1∨q=b.2):oW w' db rb cap ob og fb bY eb vb cK bI bs T (Ts.set j X) n depth next:=by
 have hnd:=h.nd;unfold aW at hnd;simp only[List.nodup_cons,List.mem_cons,List.mem_append,not_or,List.nodup_append]at hnd;obtain⟨⟨a1,a2,a3,a4,a5,a6,a7,a8⟩,⟨b2,b3,b4,b5,b6,b7,b8⟩,⟨c3,c4,c5,c6,c7,c8⟩,⟨d4,d5,d6,d7,d8⟩,⟨e5,e6,e7,e8⟩,⟨f6,f7,f8⟩,⟨g7,g8⟩,_,_,i8⟩:=hnd;have oV:=List.mem_of_getElem? hb;have k1:b.1∈fM bs:=dM.2 ⟨b,oV,.inl rfl⟩;have k2:b.2∈fM bs:=dM.2 ⟨b,oV,.inr rfl⟩
 have key:∀q,q∈aW db rb fb eb vb ob og bI bs→(∀z∈fM bs,q≠z)→q∉S:=fun q hq n1 hh=>by
  rcases hS q hq hh with e|e
  ·exact n1 _ k1 e
  ·exact n1 _ k2 e
 have fl:∀q:Nat,q∉fM bs→∀z∈fM bs,q≠z:=fun q hq z hz e=>hq (e▸hz)
 refine⟨h.blk.mod hm (key _ (by simp[aW]) (fl _ a8)),h.row.mod hm (key _ (by simp[aW]) (fl _ b8)),fun c hc=>(h.qw c hc).mod hm (key _ (Fq hc) (fun z hz=>i8 c hc z hz)),h.fresh.mod hm (key _ (by simp[aW]) (fl _ c8)),
  h.ev.mod hm (key _ (by simp[aW]) (fl _ d8)) (key _ (by simp[aW]) (fl _ e8)),h.tab.mod hm (key _ (by simp[aW]) (fl _ f8)) (key _ (by simp[aW]) (fl _ g8)),
  ?_,h.pow,h.many,h.eq,h.deep,h.nd⟩
 refine⟨by rw[List.length_set];exact h.tabs.len,fun i c Y hc hY=> ?_,h.tabs.ne⟩;rw[List.getElem?_set]at hY;by_cases hij:j=i
 ·subst hij;rw[hb]at hc;cases hc;rw[if_pos rfl,if_pos (by rw[←h.tabs.len];exact(List.getElem?_eq_some_iff.1 hb).1)]at hY;cases hY;exact hT
 ·rw[if_neg hij]at hY;obtain⟨m1,m2⟩:=iA (db:=db) (rb:=rb) (fb:=fb) (eb:=eb) (vb:=vb) (ob:=ob) (og:=og) (bI:=bI) (List.mem_of_getElem? hc);have hne:=h.tabs.ne j i b c hb hc hij;refine(h.tabs.at_ i c Y hc hY).mod hm (fun hh=> ?_) (fun hh=> ?_)
  ·rcases hS _ m1 hh with e|e
   ·exact hne.1 e.symm
   ·exact hne.2.2.1 e.symm
  ·rcases hS _ m2 hh with e|e
   ·exact hne.2.1 e.symm
   ·exact hne.2.2.2 e.symm
end
section
variable {w w' : World} {nb : Nat} {F : List Nat} {N : Nd}
theorem bJ.gI (h:bJ w nb F N):∀q∈F,q<w.heap.size:=by
 unfold bJ at h;split at h
 ·obtain⟨tb,gb,h1,h2,rfl,_⟩:=h;intro q hq;simp at hq;rcases hq with rfl|rfl|rfl
  ·exact h1.lt
  ·exact h2.aT
  ·exact h2.aU
 ·obtain⟨db,rb,cap,ob,og,bl,h1,h2,_,rfl,_⟩:=h;intro q hq;rcases List.mem_cons.1 hq with rfl|hq
  ·exact h1.lt
  ·exact h2.gI q hq
 ·obtain⟨db,rb,cap,ob,og,fb,bY,eb,vb,cK,bI,bs,h1,h2,_,rfl,_⟩:=h;intro q hq;rcases List.mem_cons.1 hq with rfl|hq
  ·exact h1.lt
  ·exact h2.gI q hq
theorem bJ.Mx (h:bJ w nb F N):nb∈F:=by
 unfold bJ at h;split at h
 ·obtain⟨tb,gb,h1,h2,rfl,_⟩:=h;simp
 ·obtain⟨db,rb,cap,ob,og,bl,h1,h2,_,rfl,_⟩:=h;simp
 ·obtain⟨db,rb,cap,ob,og,fb,bY,eb,vb,cK,bI,bs,h1,h2,_,rfl,_⟩:=h;simp
theorem bJ.mod (h:bJ w nb F N)(hm:Mod S w w')(hS:∀q∈F,q∉S):bJ w' nb F N:=by
 unfold bJ at h⊢;split at h
 ·obtain⟨tb,gb,h1,h2,rfl,h3⟩:=h;exact⟨tb,gb,h1.mod hm (hS _ (by simp)),h2.mod hm (hS _ (by simp)) (hS _ (by simp)),rfl,h3⟩
 ·obtain⟨db,rb,cap,ob,og,bl,h1,h2,h3,rfl,h4⟩:=h;exact⟨db,rb,cap,ob,og,bl,h1.mod hm (hS _ (by simp)),h2.mod hm (fun q hq=>hS q (by simp[hq])),h3,rfl,h4⟩
 ·obtain⟨db,rb,cap,ob,og,fb,bY,eb,vb,cK,bI,bs,h1,h2,h3,rfl,h4⟩:=h;exact⟨db,rb,cap,ob,og,fb,bY,eb,vb,cK,bI,bs,h1.mod hm (hS _ (by simp)),h2.mod hm (fun q hq=>hS q (by simp[hq])),h3,rfl,h4⟩
theorem bJ.below (h:bJ w nb F N)(hb:Below w.heap.size w w'):bJ w' nb F N:=h.mod (Mod.of_below hb []) (by simp)
theorem VU {X:aC}{s:Nat}(h:X.gs.length=N.T.gs.length):(N.qx X s).each=N.each∧(N.qx X s).many=N.many∧(N.qx X s).dep=N.dep:=by
 have:(N.qx X s).len=N.len:=h
 have h1:(N.qx X s).each=N.each:=by unfold Nd.each;rw[this];rfl
 exact⟨h1,rfl,rfl⟩
end
def adQ (N:Nd)(tb:Nat)(dv:Value):Array Value:=kS N tb dv
structure Whr (w:World)(H:Nat→Nat)(nb:Nat)(F:List Nat)(N:Nd)(P:MP)(x:bL)(c:bq)(key tX gX cnt:Nat)(TX:aC):Prop where
 tab:TabAt w tX gX TX
 inT:tX∈F
 KY:gX∈F
 ne:nb≠tX∧nb≠gX
 tg:TG TX
 JD:cnt≤128
 JE:(∃e∈N.ents,e.key=key∧e.hash=H key∧∃i s,(aJ TX.gs key (H key)).1=some (i,s)∧aF TX.gs i s= .full e)∨
  ((∀e∈N.ents,e.key≠key)∧(∀e∈aM TX.gs,e.key≠key)∧(aJ TX.gs key (H key)).1=none∧(N.sl=0→load TX+1≤7*TX.gs.length))
 swap:∀(w':World) (X:aC) (del add:List av) (S:List Nat),TabAt w' tX gX X→Bz del add TX X→uV H N del add→(∀e∈add,e.hash=H key)→(del=[]→(aJ TX.gs key (H key)).1=none)→Mod S w w'→(∀q∈F,q∈S→q=tX∨q=gX)→∃N',bJ w' nb F N'∧Wr H del add N N'
 call:(aj w nb 189 (kS N tX (.pointer none))∧cnt=(aJ TX.gs key (H key)).2.2)∨∃tb db,aj w nb 189 (kS N tb (pQ db))∧qE w db P x c key (H key) tX gX TX cnt
theorem wZ (gs:Tab)(key hash:Nat):(aJ gs key hash).2.2≤gs.length:=zU _ _ _ _ _ _
theorem aco {del add:List av}{N:Nd}(ha:uV H N del add)(hd:del≠[]):add.length≤del.length:=by
 rcases ha.one with h|⟨_,h,_⟩
 ·exact h
 ·exact absurd h hd
theorem uL {W0:World}{E:Nat→Addr}{nb:Nat}{F:List Nat}{N:Nd}{P:MP}{x:bL}{w:World}(c:bq)(key:Nat)(h:bJ w nb F N)(ho:dU H N)(h64:H key<18446744073709551616)(hM:aN w P x)(hE:Env W0 E w)(hb0:W0.heap.size≤P.mb)(hF:P.mb∉F):
  ∃tX gX cnt TX,Whr w H nb F N P x c key tX gX cnt TX:=by
 have dx:=ho.ph;have hsl:=ho.sl;unfold lU at dx;unfold bJ at h
 cases hp:N.ph with
 |idle=>
  rw[hp]at h dx;obtain⟨tb,gb,h1,h2,rfl,h3,h4⟩:=h;have hcnt:=wZ N.T.gs key (H key);have Zf:=ho.pw.le;refine⟨tb,gb,(aJ N.T.gs key (H key)).2.2,N.T,h2,by simp,by simp,⟨h3,h4⟩,ho.tg,by unfold Nd.len at Zf;omega, ?_,fun w' X del add S hX hc ha hh hd hm hS=> ?_,.inl ⟨h1,rfl⟩⟩
  ·rcases KX (key:=key) ho (by rw[hp];rfl)with h5|⟨h5,h6⟩
   ·exact .inl h5
   ·exact .inr ⟨h5,fun e he=>h5 e (List.mem_append_right _ he),h6,fun h0=>Oh (n:=N.len) (k:=0) ho.pw ho.deep ho.big (Nat.zero_le _) (by have:=dx.2;omega)⟩
  ·refine⟨_, ?_,Zb ho ha hc (fun Ts next hh=>by rw[hp]at hh;cases hh)⟩;unfold bJ;rw[show(N.qx X (mh del add N.sl)).ph= .idle from hp];refine⟨tb,gb,h1.mod hm (fun hh=> ?_),hX,rfl,h3,h4⟩;rcases hS nb (by simp) hh with e|e
   ·exact h3 e
   ·exact h4 e
 |nW k=>
  rw[hp]at h dx;obtain⟨db,rb,cap,ob,og,bl,h1,h2,h3,rfl,h4⟩:=h;have hcnt:=wZ N.T.gs key (H key);have Zf:=ho.pw.le;obtain⟨kk1,kk2,kk3,kk4,_⟩:=iZ ho.pw dx.1
  have nV:ob∈bH db rb ob og bl:=by simp[bH]
  have hog:og∈bH db rb ob og bl:=by simp[bH]
  have hdb:db∈bH db rb ob og bl:=by simp[bH]
  have hml:=hM.lt;simp only[List.mem_cons,not_or]at hF;refine⟨ob,og,(aJ N.T.gs key (H key)).2.2,N.T,h2.tab,by simp[nV],by simp[hog],⟨fun e=>h4 (e▸nV),fun e=>h4 (e▸hog)⟩,ho.tg,by unfold Nd.len at Zf;omega, ?_,fun w' X del add S hX hc ha hh hd hm hS=> ?_,.inr ⟨ob,db,h1,fun V hV=>LM db rb cap ob og bl N.T N.each N.dep k key (H key) P x c V (h2.mod (Mod.of_below hV []) (by simp)) ho.pw h64 (hM.below hV) (hE.next hV) hb0 ⟨fun e=>hF.2 (e▸nV),fun e=>hF.2 (e▸hog),fun e=>hF.2 (e▸hdb)⟩⟩⟩
  ·rcases KX (key:=key) ho (by rw[hp];rfl)with h5|⟨h5,h6⟩
   ·exact .inl h5
   ·exact .inr ⟨h5,fun e he=>h5 e (List.mem_append_right _ he),h6,fun h0=>Oh (n:=N.len) (k:=k) ho.pw ho.deep ho.big (by have:=dx.2.1;omega) (by have:=dx.2.2.1;rw[h0]at this;omega)⟩
  ·refine⟨_, ?_,Zb ho ha hc (fun Ts next hh=>by rw[hp]at hh;cases hh)⟩;obtain⟨e1,e2,e3⟩:=VU (N:=N) (s:=mh del add N.sl) hc.len;unfold bJ;rw[show(N.qx X (mh del add N.sl)).ph= .nW k from hp];refine⟨db,rb,cap,ob,og,bl,h1.mod hm (fun hh=> ?_),by rw[e1,e3];exact h2.qx hX hm (fun q hq dK=>hS q (by simp[hq]) dK),h3,rfl,h4⟩;rcases hS nb (by simp) hh with e|e
   ·exact h4 (e▸nV)
   ·exact h4 (e▸hog)
 |iY Ts next=>
  rw[hp]at h dx;obtain⟨db,rb,cap,ob,og,fb,bY,eb,vb,cK,bI,bs,h1,h2,h3,rfl,h4⟩:=h;obtain⟨g1,g2,g3,g4,g5⟩:=dx;obtain⟨kk1,kk2,kk3,kk4,_⟩:=iZ ho.pw g1
  have nV:ob∈aW db rb fb eb vb ob og bI bs:=by simp[aW]
  have hog:og∈aW db rb fb eb vb ob og bI bs:=by simp[aW]
  simp only[List.mem_cons,not_or]at hF;obtain⟨Tx,hTx,hw⟩:=VT (key:=key) ho hp;obtain⟨b,hb⟩:∃b,bs[dB N.many N.au (H key)]?=some b:=⟨_,List.getElem?_eq_getElem (by rw[h2.tabs.len];exact(List.getElem?_eq_some_iff.1 hTx).1)⟩;obtain⟨m1,m2⟩:=iA (db:=db) (rb:=rb) (fb:=fb) (eb:=eb) (vb:=vb) (ob:=ob) (og:=og) (bI:=bI) (List.mem_of_getElem? hb);obtain⟨tx1,tx2⟩:=g3.tg _ _ hTx;have hcx:=wZ Tx.gs key (H key);have hco:=wZ N.T.gs key (H key);have hl1:=kk1.le;have hl2:=ho.pw.le;unfold Nd.len at hl2
  have hsd:dB N.many N.au (H key)=dB bs.length N.dep (H key):=by rw[h3,Ze]
  have Tg:=fun(tX gX cnt:Nat) (TX:aC) hga (V:World) (hV:Below w.heap.size w V)=>LP db rb cap ob og fb bY eb vb cK bI bs N.T Ts N.each N.dep next key (H key) _ b Tx P x c V (h2.mod (Mod.of_below hV []) (by simp)) hsd hb hTx ho.pw (by rw[tx2];exact kk1) h64 (hM.below hV) (hE.next hV) hb0 hF.2 tX gX cnt TX hga
  have hLF:∀(w':World) (X:aC) (del add:List av) (S:List Nat),TabAt w' b.1 b.2 X→Bz del add Tx X→uV H N del add→(∀e∈add,e.hash=H key)→Mod S w w'→(∀q∈nb::aW db rb fb eb vb ob og bI bs,q∈S→q=b.1∨q=b.2)→∃N',bJ w' nb (nb::aW db rb fb eb vb ob og bI bs) N'∧Wr H del add N N':=fun w' X del add S hX hc ha hh hm hS=>by
   refine⟨_, ?_,aeh ho hp hTx ha hc (fun e he=>by rw[hh e he])⟩;unfold bJ;rw[show(N.Oi Ts next (dB N.many N.au (H key)) X (mh del add N.sl)).ph= .iY (Ts.set (dB N.many N.au (H key)) X) next from rfl];refine⟨db,rb,cap,ob,og,fb,bY,eb,vb,cK,bI,bs,h1.mod hm (fun hh=> ?_),h2.Oi hb hX hm (fun q hq dK=>hS q (by simp[hq]) dK),h3,rfl,h4⟩;rcases hS nb (by simp) hh with e|e
   ·exact h4 (e▸m1)
   ·exact h4 (e▸m2)
  rcases hw with⟨e,he,hek,heh,⟨heT,i,s,hs1,hs2⟩|⟨hn,i,s,hs1,hs2⟩⟩|⟨hn,hs1,hs2⟩
  ·refine⟨b.1,b.2,(aJ Tx.gs key (H key)).2.2,Tx,h2.tabs.at_ _ _ _ hb hTx,by simp[m1],by simp[m2],⟨fun e=>h4 (e▸m1),fun e=>h4 (e▸m2)⟩,tx1,by omega,.inl ⟨e,he,hek,heh,i,s,hs1,hs2⟩,fun w' X del add S hX hc ha hh hd hm hS=>hLF w' X del add S hX hc ha hh hm hS,.inr ⟨ob,db,h1,Tg _ _ _ _ ?_⟩⟩;rw[hs1];exact⟨rfl,rfl,rfl,rfl⟩
  ·refine⟨ob,og,(aJ Tx.gs key (H key)).2.2+(aJ N.T.gs key (H key)).2.2,N.T,h2.tab,by simp[nV],by simp[hog],⟨fun e=>h4 (e▸nV),fun e=>h4 (e▸hog)⟩,ho.tg, ?_,.inl ⟨e,he,hek,heh,i,s,hs1,hs2⟩,fun w' X del add S hX hc ha hh hd hm hS=> ?_,.inr ⟨ob,db,h1,Tg _ _ ((aJ Tx.gs key (H key)).2.2+(aJ N.T.gs key (H key)).2.2) _ ?_⟩⟩
   ·omega
   ·have hd':del≠[]:=fun e=>by rw[hd e]at hs1;cases hs1
    refine⟨_, ?_,Zb ho ha hc (fun Ts next hh=>⟨hd',aco ha hd'⟩)⟩;obtain⟨e1,e2,e3⟩:=VU (N:=N) (s:=mh del add N.sl) hc.len;unfold bJ;rw[show(N.qx X (mh del add N.sl)).ph= .iY Ts next from hp];refine⟨db,rb,cap,ob,og,fb,bY,eb,vb,cK,bI,bs,h1.mod hm (fun hh=> ?_),by rw[e1,e3];exact h2.qx hX hm (fun q hq dK=>hS q (by simp[hq]) dK),h3,rfl,h4⟩;rcases hS nb (by simp) hh with e|e
    ·exact h4 (e▸nV)
    ·exact h4 (e▸hog)
   ·rw[hn,hs1];exact⟨rfl,rfl,rfl,rfl⟩
  ·refine⟨b.1,b.2,(aJ Tx.gs key (H key)).2.2+(aJ N.T.gs key (H key)).2.2,Tx,h2.tabs.at_ _ _ _ hb hTx,by simp[m1],by simp[m2],⟨fun e=>h4 (e▸m1),fun e=>h4 (e▸m2)⟩,tx1,by omega,.inr ⟨hn,fun e he=>hn e ?_,hs1,fun h0=> ?_⟩,fun w' X del add S hX hc ha hh hd hm hS=>hLF w' X del add S hX hc ha hh hm hS,.inr ⟨ob,db,h1,Tg _ _ _ _ ?_⟩⟩
   ·unfold Nd.ents;rw[hp];exact List.mem_append_left _ (nJ.2 ⟨_,_,hTx,he⟩)
   ·have hB:=Iz ho.pw ho.deep ho.big g1 (s:=N.each*N.many+next+N.sl) (by omega);have:=Q6 hTx;rw[tx2];omega
   ·rw[hs1,hs2];exact⟨rfl,rfl,rfl,rfl⟩
end
section
def intCells (l:List Nat):Array Value:=(l.map fun n:Nat=>Value.int .i64 (n:Int)).toArray
theorem yh (l:List Nat)(i n:Nat):(intCells l).setIfInBounds i (.int .i64 (n:Int))=intCells (l.set i n):=by
 unfold intCells;rw[List.setIfInBounds_toArray,List.map_set]
theorem Gl:(Tryz.prog.info? 3).map (fun i=>(i.zero,i.size,i.bytes))=some (some (.int .i64 0),1,8):=by kernel_rfl
theorem KZ (n:Nat)(hn:n≤65536)(W:World):(Instr.makeSlice 65 (.int .i64 (n:Int)) (.int .i64 (n:Int))).run Tryz.prog W= .ok (.slice (some ⟨W.heap.size,0,none⟩) n n) (W.alloc (.cells (intCells (List.replicate n 0)) 3)):=by
 obtain⟨i,hi,hz0,hz1,hz2⟩:=info_parts Gl;have:=run_makeSlice (P:=Tryz.prog) (w:=W) 65 3 i (.int .i64 0) Tryz.underlying65 hi hz0 .i64 .i64 (n:Int) (n:Int) (by omega) (Int.le_refl _) (by rw[hz1];omega) (by rw[hz2];omega) (by omega);rw[this,hz1,Int.toNat_natCast]
 have e:madeCells (Value.int .i64 0).cells (n*1)=intCells (List.replicate n 0):=by
  rw[Bt (z:=(Value.int .i64 0).cells) (k:=1) (v:= .int .i64 0) rfl (by omega),Nat.mul_one];unfold intCells;rw[List.map_replicate];rfl
 rw[e]
structure dz (w:World)(db eb d:Nat)(l:List Nat):Prop where
 blk:aj w db 191 #[.int .i64 (d:Int),.slice (some ⟨eb,0,none⟩) l.length l.length]
 row:aj w eb 3 (intCells l)
 len:l.length=2^d
 le:d≤5
 ne:db≠eb
section
variable {w w' : World} {db eb d : Nat} {l : List Nat}
theorem dz.mod {S:List Nat}(h:dz w db eb d l)(hm:Mod S w w')(h1:db∉S)(h2:eb∉S):dz w' db eb d l:=⟨h.blk.mod hm h1,h.row.mod hm h2,h.len,h.le,h.ne⟩
instance {w w':World}{db eb d:Nat}{l:List Nat}:Md (dz w db eb d l) w w' (dz w' db eb d l) (fun S=>db∉S∧eb∉S):=⟨fun h hm hs=>h.mod hm hs.1 hs.2⟩
theorem dz.lt (h:dz w db eb d l):db<w.heap.size:=h.blk.lt
theorem dz.K3 (h:dz w db eb d l):eb<w.heap.size:=h.row.lt
theorem dz.cells (h:dz w db eb d l):w.cell? ⟨db,0,none⟩=some (.int .i64 (d:Int))∧w.cell? ⟨db,1,none⟩=some (.slice (some ⟨eb,0,none⟩) l.length l.length):=⟨h.blk.cell 0,h.blk.cell 1⟩
theorem dz.entry (h:dz w db eb d l){i:Nat}(hi:i<l.length):w.cell? ⟨eb,i,none⟩=some (.int .i64 ((l.getD i 0:Nat):Int)):=by
 rw[h.row.cell i];unfold intCells;rw[List.getElem?_toArray,List.getElem?_map,List.getD_eq_getElem?_getD,List.getElem?_eq_getElem hi];rfl
theorem dz.ak (h:dz w db eb d l)(i n:Nat):dz (w.setCell ⟨eb,i,none⟩ (.int .i64 (n:Int))) db eb d (l.set i n):=by
 refine⟨?_, ?_,by rw[List.length_set];exact h.len,h.le,h.ne⟩
 ·rw[List.length_set];exact h.blk.far (p:=⟨eb,i,none⟩) h.ne _
 ·have:=h.row.ak i (.int .i64 (n:Int))
  rwa [yh]at this
theorem dz.small (h:dz w db eb d l):l.length≤32:=by
 rw[h.len];have:=Nat.pow_le_pow_right (n:=2) (by omega) h.le;omega
end
def iJ (b:Nat):Value:=pQ b
theorem Q9 (d:Nat)(hd:d≤5)(w:World):
  Calls Tryz.prog 73 #[.int .i64 (d:Int)] w fun e w'=>e= .returned (.tuple #[iJ (w.heap.size+1),.nilIface])∧dz w' (w.heap.size+1) w.heap.size d (List.replicate (2^d) 0)∧Below w.heap.size w w':=by
 have hpw:2^d≤32:=by have:=Nat.pow_le_pow_right (n:=2) (by omega) hd;omega
 have e:((2:Int)^d)=((2^d:Nat):Int):=by simp
 have h1:¬(d:Int)<0:=by omega
 have h2:¬(d:Int)>5:=by omega
 have h3:(2:Int)^d≤65536:=by rw[e];omega
 have h4:(0:Int)≤2^d:=by rw[e];exact Int.natCast_nonneg _
 have h5:(d:Int)≤64:=by omega
 have hmk:=KZ (2^d) (by omega) w;rw[←e]at hmk
 have HE:=qd (show dz ((w.alloc (.cells (intCells (List.replicate (2^d) 0)) 3)).alloc (.cells #[.int .i64 (d:Int),.slice (some ⟨w.heap.size,0,none⟩) (2^d) (2^d)] 191)) (w.heap.size+1) w.heap.size d (List.replicate (2^d) 0)from by
  refine⟨?_,(aj.new w _ _).alloc _,by simp,hd,by omega⟩;have:=aj.new (w.alloc (.cells (intCells (List.replicate (2^d) 0)) 3)) 191 #[.int .i64 (d:Int),.slice (some ⟨w.heap.size,0,none⟩) (2^d) (2^d)];rw[World.size_alloc]at this;rw[List.length_replicate]
  exact this)
 clear e hpw hd;unfold iJ;go_in;go_wp2;refine bodyPost_ret (v:= .tuple #[.pointer (some ⟨w.heap.size+1,0,none⟩),.nilIface]) (by simp[results,Tryz.results73,go_sem]) rfl ⟨rfl,HE.out, ?_⟩;exact((Below.refl _ _).alloc (Nat.le_refl _) _).alloc (by simp) _
theorem K4 (db eb d:Nat)(l:List Nat)(w:World)(h:dz w db eb d l):Calls Tryz.prog 111 #[iJ db] w fun e w'=>e= .returned (.int .i64 (d:Int))∧w=w':=by
 obtain⟨c0,c1⟩:=h.cells;clear h;unfold iJ;go_in;go_wp2;go_ret;exact⟨rfl,rfl⟩
theorem abk (db eb d:Nat)(l:List Nat)(w:World)(h:dz w db eb d l):Calls Tryz.prog 260 #[iJ db] w fun e w'=>e= .returned (.int .i64 (l.length:Int))∧w=w':=by
 obtain⟨c0,c1⟩:=h.cells;clear h;unfold iJ;go_in;go_wp2;go_ret;exact⟨rfl,rfl⟩
theorem acp (db eb d:Nat)(l:List Nat)(hash:Nat)(h64:hash<18446744073709551616)(w:World)(h:dz w db eb d l):Calls Tryz.prog 103 #[iJ db,nU hash] w fun e w'=>e= .returned (.int .i64 ((l.getD (dQ hash d) 0:Nat):Int))∧w.drew=w':=by
 have hls:=h.len;have hle:=h.le;have htl:=Bc (d:=d) h64 (by omega)
 have hti:dQ hash d<l.length:=by omega
 have ce:=h.entry hti;have Ar:=qd (J8 hash d h64 (by omega) w.drew);generalize dQ hash d=tp at*
 have afX:(tp:Int)<(l.length:Int):=by omega
 have afY:(0:Int)≤(tp:Int):=by omega
 have NN:=qd (uI (tp:Int) w.drew);obtain⟨v,hv⟩:∃v,v=l.getD tp 0:=⟨_,rfl⟩;rw[←hv]at ce⊢;obtain⟨c0,c1⟩:=h.cells;clear h hls hle htl hv;unfold iJ;go_in;go_upto_region 1 with fail;refine rT (fun(w':World)=>w'.cell? ⟨db,0,none⟩=some (.int .i64 (d:Int))∧w'.cell? ⟨db,1,none⟩=some (.slice (some ⟨eb,0,none⟩) l.length l.length)∧w'.cell? ⟨eb,tp,none⟩=some (.int .i64 (v:Int))) [] ?_;have hHeld:=(⟨c0,c1,ce⟩:_∧_∧_);refine vW 0 rfl ?_;refine vW 1 rfl ?_;refine vW 2 rfl ?_;refine vT 3 rfl ?_;refine vW 4 rfl ?_;refine vW 5 rfl ?_;refine vW 6 rfl ?_;refine vW 7 rfl ?_;refine vT 8 rfl ?_;refine nT 9 rfl fun K hK=> ?_;go_simp;refine(Ar.out).mono ?_;rintro y w1 ⟨rfl,rfl⟩;go_wp2_with fail;have hHeld:=(⟨c0,c1,ce⟩:_∧_∧_);refine kO hK ?_;clear hK K;refine vW 10 rfl ?_;refine vW 11 rfl ?_;refine nT 12 rfl fun K hK=> ?_;go_simp;refine(NN.out).mono ?_;rintro y w1 ⟨rfl,rfl⟩;go_wp2_with fail;have hHeld:=(⟨c0,c1,ce⟩:_∧_∧_);refine kO hK ?_;clear hK K;refine vW 13 rfl ?_;refine vT 14 rfl ?_;refine vW 15 rfl ?_;refine aR (by kernel_rfl) ?_ _;go_wp2;go_ret;exact⟨rfl,rfl⟩
theorem K5 (db eb d:Nat)(l:List Nat)(i:Nat)(hi:i<l.length)(w:World)(h:dz w db eb d l):Calls Tryz.prog 276 #[iJ db,.int .i64 (i:Int)] w fun e w'=>e= .returned (.tuple #[.int .i64 ((l.getD i 0:Nat):Int),.nilIface])∧w=w':=by
 have hi0:¬(i:Int)<0:=by omega
 have hi1:(0:Int)≤(i:Int):=by omega
 have hi2:(i:Int)<(l.length:Int):=by omega
 have ce:=h.entry hi;obtain⟨v,hv⟩:∃v,v=l.getD i 0:=⟨_,rfl⟩;rw[←hv]at ce⊢;obtain⟨c0,c1⟩:=h.cells;clear h hv;unfold iJ;go_in;go_wp2;refine bodyPost_ret (v:= .tuple #[.int .i64 (v:Int),.nilIface]) (by simp[results,Tryz.results276,go_sem]) rfl ⟨rfl,rfl⟩
theorem abl (db eb d:Nat)(l:List Nat)(i id:Nat)(hi:i<l.length)(w:World)(h:dz w db eb d l):Calls Tryz.prog 277 #[iJ db,.int .i64 (i:Int),.int .i64 (id:Int)] w fun e w'=>e= .returned .nilIface∧dz w' db eb d (l.set i id)∧Mod [eb] w w':=by
 have hi1:(0:Int)≤(i:Int):=by omega
 have hi2:(i:Int)<(l.length:Int):=by omega
 have hid:¬(id:Int)<0:=by omega
 have ce:=h.entry hi;have fe:=h.row.frozen i;have bQ:=qd (K5 db eb d l i hi w h);have HS:=qd (And.intro (h.ak i id) ((Mod.refl [eb] w).sl i (.int .i64 (id:Int))));obtain⟨v,hv⟩:∃v,v=l.getD i 0:=⟨_,rfl⟩;rw[←hv]at ce bQ;obtain⟨c0,c1⟩:=h.cells;clear h hv;unfold iJ at bQ⊢;go_in;go_wp2_with fail;refine(bQ.out).mono ?_;rintro y w1 ⟨rfl,rfl⟩;go_wp2;go_ret;exact⟨rfl,HS.out⟩
end
def cB (p pd d:Nat):Nat:=p*2^(d-pd)
theorem abm {p pd d:Nat}(h1:pd≤d)(h2:d≤5):dQ (nD p pd) d=cB p pd d:=by
 unfold dQ nD cB;rw[show 64-pd=(d-pd)+(64-d) by omega,Nat.pow_add,←Nat.mul_assoc,Nat.mul_div_cancel _ (Nat.two_pow_pos _)]
theorem Er {p pd d:Nat}(h1:pd≤d)(hp:p<2^pd):cB p pd d+2^(d-pd)≤2^d:=by
 unfold cB;have:(p+1)*2^(d-pd)≤2^pd*2^(d-pd):=Nat.mul_le_mul_right _ hp;rw[←Nat.pow_add,show pd+(d-pd)=d by omega,Nat.add_mul,Nat.one_mul]at this;exact this
def jG (l:List Nat)(fr id:Nat):Nat→List Nat
 |0=>l
 |j+1=>(jG l fr id j).set (fr+j) id
theorem lV (l:List Nat)(fr id:Nat):∀j,(jG l fr id j).length=l.length
 |0=>rfl
 |j+1=>by unfold jG;rw[List.length_set,lV l fr id j]
theorem Om (db eb d:Nat)(l:List Nat)(p pd:Nat)(h1:pd≤d)(hp:p<2^pd)(w:World)(h:dz w db eb d l):
  Calls Tryz.prog 262 #[iJ db,nI p,nI pd] w fun e w'=>e= .returned (.tuple #[.int .i64 ((cB p pd d:Nat):Int),.int .i64 ((cB p pd d+2^(d-pd):Nat):Int),.nilIface])∧w.drew=w':=by
 have hd5:=h.le;have hlt:=Bd (p:=p) (d:=pd) (by omega) hp;have hpos:=Nat.two_pow_pos (64-pd);have hft:=Er h1 hp
 have hpw:2^d≤32:=by have:=Nat.pow_le_pow_right (n:=2) (by omega) hd5;omega
 have VW:=qd (fun V:World=>CP p pd (by omega) hp V);have Ar:=qd (fun V:World=>J8 (nD p pd) d (by omega) (by omega) V);rw[abm h1 hd5]at Ar;obtain⟨fr,hfr⟩:∃fr,fr=cB p pd d:=⟨_,rfl⟩;rw[←hfr]at hft Ar⊢;obtain⟨k,hk⟩:∃k,k=d-pd:=⟨_,rfl⟩;rw[←hk]at hft⊢
 have e2:((2:Int)^k)=((2^k:Nat):Int):=by simp
 have k0:(k:Int)≤64:=by omega
 have k1:(0:Int)≤(k:Int):=by omega
 have k2:(2:Int)^k≤65536:=by rw[e2];omega
 have k3:(0:Int)≤2^k:=by rw[e2];exact Int.natCast_nonneg _
 have hgt:¬(pd:Int)>(d:Int):=by omega
 have hw1:IntKind.i64.wrap ((d:Int)-(pd:Int))=(k:Int):=by rw[IntKind.wrap_i64];omega
 have hw2:IntKind.i64.wrap ((fr:Int)+(2:Int)^k)=(fr:Int)+(2:Int)^k:=by rw[IntKind.wrap_i64,e2];omega
 have hw3:IntKind.i64.wrap ((2:Int)^k)=(2:Int)^k:=by rw[IntKind.wrap_i64,e2];omega
 have hto:(fr:Int)+(2:Int)^k=((fr+2^k:Nat):Int):=by rw[e2];omega
 have HTo:=qd hto;have NN:=qd (uI (fr:Int));obtain⟨c0,c1⟩:=h.cells;clear h hlt hpos hft hpw hfr hk e2 hto hd5 hp h1;unfold iJ;go_in;go_wp2_with fail;refine(VW.out _).mono ?_;rintro y w1 ⟨rfl,rfl⟩;go_wp2_with fail;refine(Ar.out _).mono ?_;rintro y w1 ⟨rfl,rfl⟩;go_wp2_with fail;refine(NN.out _).mono ?_;rintro y w1 ⟨rfl,rfl⟩;go_upto_region 7 with fail;refine rT (fun(w':World)=>w'.cell? ⟨db,0,none⟩=some (nI d)) [] ?_;have hHeld:=c0;refine vW 0 rfl ?_;refine vW 1 rfl ?_;refine vW 2 rfl ?_;refine vW 3 rfl ?_;refine vW 4 rfl ?_;refine vT 5 rfl ?_;refine vW 6 rfl ?_;refine vW 7 rfl ?_;refine vW 8 rfl ?_;refine vW 9 rfl ?_;refine vW 10 rfl ?_;refine vW 11 rfl ?_;refine vW 12 rfl ?_;refine aR (by kernel_rfl) ?_ _;go_wp2;refine bodyPost_ret (v:= .tuple #[nI fr,.int .i64 ((fr:Int)+(2:Int)^k),.nilIface]) (by simp[results,Tryz.results262,go_sem]) rfl ⟨by rw[HTo.out],rfl⟩
theorem Ra (db eb d:Nat)(l:List Nat)(p pd:Nat)(h1:pd≤d)(hp:p<2^pd)(id:Nat)(w:World)(h:dz w db eb d l):
  Calls Tryz.prog 236 #[iJ db,nI p,nI pd,nI id] w fun e w'=>e= .returned (.tuple #[.int .i64 ((2^(d-pd):Nat):Int),.nilIface])∧dz w' db eb d (jG l (cB p pd d) id (2^(d-pd)))∧Mod [eb] w w':=by
 have hft:=Er h1 hp;have hlen:=h.len;have hls:=h.small;have Co:=qd (Om db eb d l p pd h1 hp w h);obtain⟨fr,hfr⟩:∃fr,fr=cB p pd d:=⟨_,rfl⟩;obtain⟨n,hn⟩:∃n,n=2^(d-pd):=⟨_,rfl⟩;rw[←hfr,←hn]at hft Co⊢
 have hin:fr+n≤l.length:=by omega
 have hnp:0<n:=by rw[hn];exact Nat.two_pow_pos _
 have hne1:¬l.length=fr:=by omega
 have hfn:(fr:Int)≤((fr+n:Nat):Int):=by omega
 have hfl:((fr+n:Nat):Int)≤(l.length:Int):=by omega
 have hf0:(0:Int)≤(fr:Int):=by omega
 have hid:¬(id:Int)<0:=by omega
 have hsub:((fr+n:Nat):Int)-(fr:Int)=(n:Int):=by omega
 have HD:=qd (h.mod (Mod.drewN [] w 1) (by simp) (by simp));obtain⟨c0,c1⟩:=h.cells;clear h hfr hn hft hlen hp h1;unfold iJ at Co⊢;go_in;go_wp2_with fail;refine(Co.out).mono ?_;rintro y w1 ⟨rfl,hw1⟩;obtain⟨c0,c1⟩:=HD.out.cells;rw[show w.drewN 1=w.drew from rfl,hw1]at c0 c1;go_wp2;have HD1:=qd (show dz w1 db eb d l from hw1▸HD.out);have Hm1:=qd (show Mod [eb] w w1 from hw1▸Mod.drewN [eb] w 1);clear hw1 HD c0 c1;go_loopw [13,38] (fun _ i wr=>∃j:Nat,j≤n∧i= .int .i64 j∧dz wr db eb d (jG l fr id j)∧Mod [eb] w wr) (fun _ i _=>n-(intOf i).toNat)
 case atStart=>exact⟨0,by omega,rfl,HD1.out,Hm1.out⟩
 case round=>
  clear HD1 Hm1;obtain⟨j,hj,rfl,hD,hm⟩:=hrel;by_cases hlt:j<n
  ·have hlt':(j:Int)<(n:Int):=by omega
   have hj0:(0:Int)≤(j:Int):=by omega
   have hln:(jG l fr id j).length=l.length:=lV l fr id j
   have hfj:fr+j<(jG l fr id j).length:=by omega
   have ce:=hD.entry hfj;have fe:=hD.row.frozen (fr+j);have HS:=qd (And.intro (hD.ak (fr+j) id) (hm.sl (fr+j) (nI id)));obtain⟨c0,c1⟩:=hD.cells;rw[hln]at c1;obtain⟨v,hv⟩:∃v,v=(jG l fr id j).getD (fr+j) 0:=⟨_,rfl⟩;rw[←hv]at ce
   have hwr:IntKind.i64.wrap ((fr:Int)+(j:Int))=(fr:Int)+(j:Int):=by rw[IntKind.wrap_i64];omega
   have hs3:(fr:Int)+(j:Int)<(l.length:Int):=by omega
   have hs4:((fr:Int)+(j:Int)).toNat=fr+j:=by omega
   have hs5:(0:Int)≤(fr:Int)+(j:Int):=by omega
   clear hD hm hv hln hfj;go_wp2;go_roundw
   case rel=>exact⟨j+1,by omega,by go_num,HS.out⟩
   case measure=>simp[intOf];omega
  ·obtain rfl:j=n:=by omega
   have hlt':¬(j:Int)<(j:Int):=by omega
   have HF:=qd (And.intro hD hm);clear hD hm;go_wp2;refine bodyPost_ret (v:= .tuple #[.int .i64 ((fr:Int)+(j:Int)-(fr:Int)),.nilIface]) (by simp[results,Tryz.results236,go_sem]) rfl ⟨by rw[show(fr:Int)+(j:Int)-(fr:Int)=(j:Int) by omega],HF.out⟩
end Go.Proofs.YtnfjjbpmhcbelaaGreatDoor
