/- A node in the heap, in every phase of its job: where it lies, which table a key's write goes to. -/
import Derived.Test.YthfgacnlojmmfaaGreatDoorCoCA
import Derived.Test.YthfgacnlojmmfaaGreatDoorCoN
import Derived.Test.YthfgacnlojmmfaaGreatDoorCoBY
import Derived.Test.YthfgacnlojmmfaaGreatDoorLaneP
namespace Go.Proofs.YthfgacnlojmmfaaGreatDoor
set_option maxRecDepth 100000
set_option maxHeartbeats 4000000
open Go.RowKit AmC
section
variable {S : List Nat} {H : Nat → Nat}
def Nd.dep (N:Nd):Nat:=if N.many=1 then 0 else N.dpt
theorem side_dep (N:Nd)(h:Nat):sideOf N.many N.dep h=sideOf N.many N.dpt h:=by
 unfold Nd.dep sideOf
 split<;>rfl
def ndCells (N:Nd)(tb:Nat)(dv:Value):Array Value:= #[.int .i64 (N.pfx:Int),.int .i64 (N.dpt:Int),.pointer (some ⟨tb,0,none⟩),.int .i64 (N.kind:Int),dv]
def NdAt (w:World)(nb:Nat)(F:List Nat)(N:Nd):Prop:=match N.ph with
 | .idle=>∃tb gb,Blk w nb 190 (ndCells N tb (.pointer none))∧TabAt w tb gb N.T∧F=[nb,tb,gb]∧nb≠tb∧nb≠gb
 | .bld k=>∃db rb cap ob og bl,Blk w nb 190 (ndCells N ob (.pointer (some ⟨db,0,none⟩)))∧DuB w db rb cap ob og bl N.T N.each N.dep k∧bl.length=N.many∧F=nb::footB db rb ob og bl∧nb∉footB db rb ob og bl
 | .mov Ts next=>∃db rb cap ob og fb fcap eb vb vcap bbs bs,Blk w nb 190 (ndCells N ob (.pointer (some ⟨db,0,none⟩)))∧DuM w db rb cap ob og fb fcap eb vb vcap bbs bs N.T Ts N.each N.dep next∧bs.length=N.many∧F=nb::footM db rb fb eb vb ob og bbs bs∧nb∉footM db rb fb eb vb ob og bbs bs
section
variable {w w' : World} {db rb cap ob og fb fcap eb vb vcap : Nat} {bl : List (Nat × Nat × Nat)} {bbs : List Nat} {bs : List (Nat × Nat)} {T X : TabM} {Ts : List TabM} {n depth k next : Nat}
theorem DuB.lts (h:DuB w db rb cap ob og bl T n depth k):∀q∈footB db rb ob og bl,q<w.heap.size:=by
 intro q hq;unfold footB at hq;simp only[List.mem_cons,List.mem_flatMap]at hq;rcases hq with rfl|rfl|rfl|rfl|⟨b,hb,hq⟩
 ·exact h.blk.lt
 ·exact h.row.lt
 ·exact h.tab.ltT
 ·exact h.tab.ltG
 ·obtain⟨i,hi⟩:=List.getElem?_of_mem hb;have:=h.blds i b hi;simp at hq;rcases hq with rfl|rfl|rfl
  ·exact this.lt
  ·exact this.ltT
  ·exact this.ltG
theorem DuM.lts (h:DuM w db rb cap ob og fb fcap eb vb vcap bbs bs T Ts n depth next):∀q∈footM db rb fb eb vb ob og bbs bs,q<w.heap.size:=by
 intro q hq;unfold footM at hq;simp only[List.mem_cons,List.mem_append,mem_flatB]at hq;rcases hq with rfl|rfl|rfl|rfl|rfl|rfl|rfl|hq|⟨b,hb,hq⟩
 ·exact h.blk.lt
 ·exact h.row.lt
 ·exact h.fresh.lt
 ·exact h.ev.lt
 ·exact h.ev.ltV
 ·exact h.tab.ltT
 ·exact h.tab.ltG
 ·exact(h.blds q hq).lt
 ·obtain⟨i,hi⟩:=List.getElem?_of_mem hb;obtain⟨T',hT'⟩:∃T',Ts[i]?=some T':=⟨_,List.getElem?_eq_getElem (by rw[←h.tabs.len];exact(List.getElem?_eq_some_iff.1 hi).1)⟩;have:=h.tabs.at_ i b T' hi hT';rcases hq with rfl|rfl
  ·exact this.ltT
  ·exact this.ltG
theorem DuB.setT (h:DuB w db rb cap ob og bl T n depth k)(hT:TabAt w' ob og X)(hm:Mod S w w')(hS:∀q∈footB db rb ob og bl,q∈S→q=ob∨q=og):DuB w' db rb cap ob og bl X n depth k:=by
 have hnd:=h.nd;unfold footB at hnd;simp only[List.nodup_cons,List.mem_cons,List.mem_flatMap,not_or]at hnd;obtain⟨⟨h1,h2,h3,_⟩,⟨h4,h5,h6⟩,⟨h7,h8⟩,h9,_⟩:=hnd;refine⟨h.blk.mod hm (fun hh=> ?_),h.row.mod hm (fun hh=> ?_),fun i b hb=> ?_,hT,h.pow,h.many,h.lt,h.deep,h.nd⟩
 ·rcases hS _ (by simp[footB]) hh with e|e
  ·exact h2 e
  ·exact h3 e
 ·rcases hS _ (by simp[footB]) hh with e|e
  ·exact h4 e
  ·exact h5 e
 ·have hbm:=List.mem_of_getElem? hb;obtain⟨m1,m2,m3⟩:=mem_footB (db:=db) (rb:=rb) (ob:=ob) (og:=og) hbm;have hne:∀q∈[b.1,b.2.1,b.2.2],q≠ob∧q≠og:=fun q hq=>⟨fun e=>h8 ⟨b,hbm,by have h:=e▸hq;simpa using h⟩,fun e=>h9 ⟨b,hbm,by have h:=e▸hq;simpa using h⟩⟩;refine(h.blds i b hb).mod hm (fun hh=> ?_) (fun hh=> ?_) (fun hh=> ?_)
  ·rcases hS _ m1 hh with e|e
   ·exact(hne _ (by simp)).1 e
   ·exact(hne _ (by simp)).2 e
  ·rcases hS _ m2 hh with e|e
   ·exact(hne _ (by simp)).1 e
   ·exact(hne _ (by simp)).2 e
  ·rcases hS _ m3 hh with e|e
   ·exact(hne _ (by simp)).1 e
   ·exact(hne _ (by simp)).2 e
theorem mem_footM_b {q:Nat}(h:q∈bbs):q∈footM db rb fb eb vb ob og bbs bs:=by unfold footM;simp[h]
theorem DuM.setT (h:DuM w db rb cap ob og fb fcap eb vb vcap bbs bs T Ts n depth next)(hT:TabAt w' ob og X)(hm:Mod S w w')(hS:∀q∈footM db rb fb eb vb ob og bbs bs,q∈S→q=ob∨q=og):DuM w' db rb cap ob og fb fcap eb vb vcap bbs bs X Ts n depth next:=by
 have hnd:=h.nd;unfold footM at hnd;simp only[List.nodup_cons,List.mem_cons,List.mem_append,not_or]at hnd;obtain⟨⟨a1,a2,a3,a4,a5,a6,a7,a8⟩,⟨b2,b3,b4,b5,b6,b7,b8⟩,⟨c3,c4,c5,c6,c7,c8⟩,⟨d4,d5,d6,d7,d8⟩,⟨e5,e6,e7,e8⟩,⟨f6,f7,f8⟩,⟨g7,g8⟩,_⟩:=hnd
 have key:∀q,q∈footM db rb fb eb vb ob og bbs bs→q≠ob→q≠og→q∉S:=fun q hq n1 n2 hh=>by
  rcases hS q hq hh with e|e
  ·exact n1 e
  ·exact n2 e
 refine⟨h.blk.mod hm (key _ (by simp[footM]) a5 a6),h.row.mod hm (key _ (by simp[footM]) b5 b6),fun b hb=>(h.blds b hb).mod hm (key _ (mem_footM_b hb) (fun e=>f7 (e▸hb)) (fun e=>g7 (e▸hb))),h.fresh.mod hm (key _ (by simp[footM]) c5 c6),
  h.ev.mod hm (key _ (by simp[footM]) d5 d6) (key _ (by simp[footM]) e5 e6),hT,h.tabs.mod hm (fun b hb=> ?_),h.pow,h.many,h.eq,h.deep,h.nd⟩
 obtain⟨m1,m2⟩:=mem_footM_t (db:=db) (rb:=rb) (fb:=fb) (eb:=eb) (vb:=vb) (ob:=ob) (og:=og) (bbs:=bbs) hb;exact⟨key _ m1 (fun e=>f8 (e▸mem_flatB.2 ⟨b,hb,.inl rfl⟩)) (fun e=>g8 (e▸mem_flatB.2 ⟨b,hb,.inl rfl⟩)),key _ m2 (fun e=>f8 (e▸mem_flatB.2 ⟨b,hb,.inr rfl⟩)) (fun e=>g8 (e▸mem_flatB.2 ⟨b,hb,.inr rfl⟩))⟩
theorem DuM.setF (h:DuM w db rb cap ob og fb fcap eb vb vcap bbs bs T Ts n depth next){j:Nat}{b:Nat×Nat}(hb:bs[j]?=some b)(hT:TabAt w' b.1 b.2 X)(hm:Mod S w w')(hS:∀q∈footM db rb fb eb vb ob og bbs bs,q∈S→q=b.1∨q=b.2):DuM w' db rb cap ob og fb fcap eb vb vcap bbs bs T (Ts.set j X) n depth next:=by
 have hnd:=h.nd;unfold footM at hnd;simp only[List.nodup_cons,List.mem_cons,List.mem_append,not_or,List.nodup_append]at hnd;obtain⟨⟨a1,a2,a3,a4,a5,a6,a7,a8⟩,⟨b2,b3,b4,b5,b6,b7,b8⟩,⟨c3,c4,c5,c6,c7,c8⟩,⟨d4,d5,d6,d7,d8⟩,⟨e5,e6,e7,e8⟩,⟨f6,f7,f8⟩,⟨g7,g8⟩,_,_,i8⟩:=hnd;have hbm:=List.mem_of_getElem? hb;have k1:b.1∈flatB bs:=mem_flatB.2 ⟨b,hbm,.inl rfl⟩;have k2:b.2∈flatB bs:=mem_flatB.2 ⟨b,hbm,.inr rfl⟩
 have key:∀q,q∈footM db rb fb eb vb ob og bbs bs→(∀z∈flatB bs,q≠z)→q∉S:=fun q hq n1 hh=>by
  rcases hS q hq hh with e|e
  ·exact n1 _ k1 e
  ·exact n1 _ k2 e
 have fl:∀q:Nat,q∉flatB bs→∀z∈flatB bs,q≠z:=fun q hq z hz e=>hq (e▸hz)
 refine⟨h.blk.mod hm (key _ (by simp[footM]) (fl _ a8)),h.row.mod hm (key _ (by simp[footM]) (fl _ b8)),fun c hc=>(h.blds c hc).mod hm (key _ (mem_footM_b hc) (fun z hz=>i8 c hc z hz)),h.fresh.mod hm (key _ (by simp[footM]) (fl _ c8)),
  h.ev.mod hm (key _ (by simp[footM]) (fl _ d8)) (key _ (by simp[footM]) (fl _ e8)),h.tab.mod hm (key _ (by simp[footM]) (fl _ f8)) (key _ (by simp[footM]) (fl _ g8)),
  ?_,h.pow,h.many,h.eq,h.deep,h.nd⟩
 refine⟨by rw[List.length_set];exact h.tabs.len,fun i c Y hc hY=> ?_,h.tabs.ne⟩;rw[List.getElem?_set]at hY;by_cases hij:j=i
 ·subst hij;rw[hb]at hc;cases hc;rw[if_pos rfl,if_pos (by rw[←h.tabs.len];exact(List.getElem?_eq_some_iff.1 hb).1)]at hY;cases hY;exact hT
 ·rw[if_neg hij]at hY;obtain⟨m1,m2⟩:=mem_footM_t (db:=db) (rb:=rb) (fb:=fb) (eb:=eb) (vb:=vb) (ob:=ob) (og:=og) (bbs:=bbs) (List.mem_of_getElem? hc);have hne:=h.tabs.ne j i b c hb hc hij;refine(h.tabs.at_ i c Y hc hY).mod hm (fun hh=> ?_) (fun hh=> ?_)
  ·rcases hS _ m1 hh with e|e
   ·exact hne.1 e.symm
   ·exact hne.2.2.1 e.symm
  ·rcases hS _ m2 hh with e|e
   ·exact hne.2.1 e.symm
   ·exact hne.2.2.2 e.symm
end
section
variable {w w' : World} {nb : Nat} {F : List Nat} {N : Nd}
theorem NdAt.lts (h:NdAt w nb F N):∀q∈F,q<w.heap.size:=by
 unfold NdAt at h;split at h
 ·obtain⟨tb,gb,h1,h2,rfl,_⟩:=h;intro q hq;simp at hq;rcases hq with rfl|rfl|rfl
  ·exact h1.lt
  ·exact h2.ltT
  ·exact h2.ltG
 ·obtain⟨db,rb,cap,ob,og,bl,h1,h2,_,rfl,_⟩:=h;intro q hq;rcases List.mem_cons.1 hq with rfl|hq
  ·exact h1.lt
  ·exact h2.lts q hq
 ·obtain⟨db,rb,cap,ob,og,fb,fcap,eb,vb,vcap,bbs,bs,h1,h2,_,rfl,_⟩:=h;intro q hq;rcases List.mem_cons.1 hq with rfl|hq
  ·exact h1.lt
  ·exact h2.lts q hq
theorem NdAt.nb_in (h:NdAt w nb F N):nb∈F:=by
 unfold NdAt at h;split at h
 ·obtain⟨tb,gb,h1,h2,rfl,_⟩:=h;simp
 ·obtain⟨db,rb,cap,ob,og,bl,h1,h2,_,rfl,_⟩:=h;simp
 ·obtain⟨db,rb,cap,ob,og,fb,fcap,eb,vb,vcap,bbs,bs,h1,h2,_,rfl,_⟩:=h;simp
theorem NdAt.mod (h:NdAt w nb F N)(hm:Mod S w w')(hS:∀q∈F,q∉S):NdAt w' nb F N:=by
 unfold NdAt at h⊢;split at h
 ·obtain⟨tb,gb,h1,h2,rfl,h3⟩:=h;exact⟨tb,gb,h1.mod hm (hS _ (by simp)),h2.mod hm (hS _ (by simp)) (hS _ (by simp)),rfl,h3⟩
 ·obtain⟨db,rb,cap,ob,og,bl,h1,h2,h3,rfl,h4⟩:=h;exact⟨db,rb,cap,ob,og,bl,h1.mod hm (hS _ (by simp)),h2.mod hm (fun q hq=>hS q (by simp[hq])),h3,rfl,h4⟩
 ·obtain⟨db,rb,cap,ob,og,fb,fcap,eb,vb,vcap,bbs,bs,h1,h2,h3,rfl,h4⟩:=h;exact⟨db,rb,cap,ob,og,fb,fcap,eb,vb,vcap,bbs,bs,h1.mod hm (hS _ (by simp)),h2.mod hm (fun q hq=>hS q (by simp[hq])),h3,rfl,h4⟩
theorem NdAt.below (h:NdAt w nb F N)(hb:Below w.heap.size w w'):NdAt w' nb F N:=h.mod (Mod.of_below hb []) (by simp)
theorem nd_set {X:TabM}{s:Nat}(h:X.gs.length=N.T.gs.length):(N.setT X s).each=N.each∧(N.setT X s).many=N.many∧(N.setT X s).dep=N.dep:=by
 have:(N.setT X s).len=N.len:=h
 have h1:(N.setT X s).each=N.each:=by unfold Nd.each;rw[this];rfl
 exact⟨h1,rfl,rfl⟩
end
def nodeCells (N:Nd)(tb:Nat)(dv:Value):Array Value:=ndCells N tb dv
structure Whr (w:World)(H:Nat→Nat)(nb:Nat)(F:List Nat)(N:Nd)(P:MP)(x:Mtr)(c:Cnt)(key tX gX cnt:Nat)(TX:TabM):Prop where
 tab:TabAt w tX gX TX
 inT:tX∈F
 inG:gX∈F
 ne:nb≠tX∧nb≠gX
 tg:TG TX
 cnt_:cnt≤128
 key_:(∃e∈N.ents,e.key=key∧e.hash=H key∧∃i s,(seek TX.gs key (H key)).1=some (i,s)∧slotAt TX.gs i s= .full e)∨
  ((∀e∈N.ents,e.key≠key)∧(∀e∈entsT TX.gs,e.key≠key)∧(seek TX.gs key (H key)).1=none∧(N.sl=0→load TX+1≤7*TX.gs.length))
 swap:∀(w':World) (X:TabM) (del add:List Ent) (S:List Nat),TabAt w' tX gX X→TChg del add TX X→AddOk H N del add→(∀e∈add,e.hash=H key)→(del=[]→(seek TX.gs key (H key)).1=none)→Mod S w w'→(∀q∈F,q∈S→q=tX∨q=gX)→∃N',NdAt w' nb F N'∧Wr H del add N N'
 call:(Blk w nb 190 (ndCells N tX (.pointer none))∧cnt=(seek TX.gs key (H key)).2.2)∨∃tb db,Blk w nb 190 (ndCells N tb (.pointer (some ⟨db,0,none⟩)))∧SeekTo w db P x c key (H key) tX gX TX cnt
theorem seek_count (gs:Tab)(key hash:Nat):(seek gs key hash).2.2≤gs.length:=seekFrom_count _ _ _ _ _ _
theorem wr_del {del add:List Ent}{N:Nd}(ha:AddOk H N del add)(hd:del≠[]):add.length≤del.length:=by
 rcases ha.one with h|⟨_,h,_⟩
 ·exact h
 ·exact absurd h hd
theorem nd_where {W0:World}{E:Nat→Addr}{nb:Nat}{F:List Nat}{N:Nd}{P:MP}{x:Mtr}{w:World}(c:Cnt)(key:Nat)(h:NdAt w nb F N)(ho:NOk H N)(h64:H key<18446744073709551616)(hM:MetP w P x)(hE:Env W0 E w)(hb0:W0.heap.size≤P.mb)(hF:P.mb∉F):
  ∃tX gX cnt TX,Whr w H nb F N P x c key tX gX cnt TX:=by
 have hph:=ho.ph;have hsl:=ho.sl;unfold PhOk at hph;unfold NdAt at h
 cases hp:N.ph with
 |idle=>
  rw[hp]at h hph;obtain⟨tb,gb,h1,h2,rfl,h3,h4⟩:=h;have hcnt:=seek_count N.T.gs key (H key);have h64':=ho.pw.le;refine⟨tb,gb,(seek N.T.gs key (H key)).2.2,N.T,h2,by simp,by simp,⟨h3,h4⟩,ho.tg,by unfold Nd.len at h64';omega, ?_,fun w' X del add S hX hc ha hh hd hm hS=> ?_,.inl ⟨h1,rfl⟩⟩
  ·rcases old_where (key:=key) ho (by rw[hp];rfl)with h5|⟨h5,h6⟩
   ·exact .inl h5
   ·exact .inr ⟨h5,fun e he=>h5 e (List.mem_append_right _ he),h6,fun h0=>room_old (n:=N.len) (k:=0) ho.pw ho.deep ho.big (Nat.zero_le _) (by have:=hph.2;omega)⟩
  ·refine⟨_, ?_,wr_T ho ha hc (fun Ts next hh=>by rw[hp]at hh;cases hh)⟩;unfold NdAt;rw[show(N.setT X (slk del add N.sl)).ph= .idle from hp];refine⟨tb,gb,h1.mod hm (fun hh=> ?_),hX,rfl,h3,h4⟩;rcases hS nb (by simp) hh with e|e
   ·exact h3 e
   ·exact h4 e
 |bld k=>
  rw[hp]at h hph;obtain⟨db,rb,cap,ob,og,bl,h1,h2,h3,rfl,h4⟩:=h;have hcnt:=seek_count N.T.gs key (H key);have h64':=ho.pw.le;obtain⟨kk1,kk2,kk3,kk4,_⟩:=kind_each ho.pw hph.1
  have hob:ob∈footB db rb ob og bl:=by simp[footB]
  have hog:og∈footB db rb ob og bl:=by simp[footB]
  have hdb:db∈footB db rb ob og bl:=by simp[footB]
  have hml:=hM.lt;simp only[List.mem_cons,not_or]at hF;refine⟨ob,og,(seek N.T.gs key (H key)).2.2,N.T,h2.tab,by simp[hob],by simp[hog],⟨fun e=>h4 (e▸hob),fun e=>h4 (e▸hog)⟩,ho.tg,by unfold Nd.len at h64';omega, ?_,fun w' X del add S hX hc ha hh hd hm hS=> ?_,.inr ⟨ob,db,h1,fun V hV=>dual_seek_bld db rb cap ob og bl N.T N.each N.dep k key (H key) P x c V (h2.mod (Mod.of_below hV []) (by simp)) ho.pw h64 (hM.below hV) (hE.next hV) hb0 ⟨fun e=>hF.2 (e▸hob),fun e=>hF.2 (e▸hog),fun e=>hF.2 (e▸hdb)⟩⟩⟩
  ·rcases old_where (key:=key) ho (by rw[hp];rfl)with h5|⟨h5,h6⟩
   ·exact .inl h5
   ·exact .inr ⟨h5,fun e he=>h5 e (List.mem_append_right _ he),h6,fun h0=>room_old (n:=N.len) (k:=k) ho.pw ho.deep ho.big (by have:=hph.2.1;omega) (by have:=hph.2.2.1;rw[h0]at this;omega)⟩
  ·refine⟨_, ?_,wr_T ho ha hc (fun Ts next hh=>by rw[hp]at hh;cases hh)⟩;obtain⟨e1,e2,e3⟩:=nd_set (N:=N) (s:=slk del add N.sl) hc.len;unfold NdAt;rw[show(N.setT X (slk del add N.sl)).ph= .bld k from hp];refine⟨db,rb,cap,ob,og,bl,h1.mod hm (fun hh=> ?_),by rw[e1,e3];exact h2.setT hX hm (fun q hq hqS=>hS q (by simp[hq]) hqS),h3,rfl,h4⟩;rcases hS nb (by simp) hh with e|e
   ·exact h4 (e▸hob)
   ·exact h4 (e▸hog)
 |mov Ts next=>
  rw[hp]at h hph;obtain⟨db,rb,cap,ob,og,fb,fcap,eb,vb,vcap,bbs,bs,h1,h2,h3,rfl,h4⟩:=h;obtain⟨g1,g2,g3,g4,g5⟩:=hph;obtain⟨kk1,kk2,kk3,kk4,_⟩:=kind_each ho.pw g1
  have hob:ob∈footM db rb fb eb vb ob og bbs bs:=by simp[footM]
  have hog:og∈footM db rb fb eb vb ob og bbs bs:=by simp[footM]
  simp only[List.mem_cons,not_or]at hF;obtain⟨Tx,hTx,hw⟩:=mov_where (key:=key) ho hp;obtain⟨b,hb⟩:∃b,bs[sideOf N.many N.dpt (H key)]?=some b:=⟨_,List.getElem?_eq_getElem (by rw[h2.tabs.len];exact(List.getElem?_eq_some_iff.1 hTx).1)⟩;obtain⟨m1,m2⟩:=mem_footM_t (db:=db) (rb:=rb) (fb:=fb) (eb:=eb) (vb:=vb) (ob:=ob) (og:=og) (bbs:=bbs) (List.mem_of_getElem? hb);obtain⟨tx1,tx2⟩:=g3.tg _ _ hTx;have hcx:=seek_count Tx.gs key (H key);have hco:=seek_count N.T.gs key (H key);have hl1:=kk1.le;have hl2:=ho.pw.le;unfold Nd.len at hl2
  have hsd:sideOf N.many N.dpt (H key)=sideOf bs.length N.dep (H key):=by rw[h3,side_dep]
  have hseek:=fun(tX gX cnt:Nat) (TX:TabM) hga (V:World) (hV:Below w.heap.size w V)=>dual_seek_mov db rb cap ob og fb fcap eb vb vcap bbs bs N.T Ts N.each N.dep next key (H key) _ b Tx P x c V (h2.mod (Mod.of_below hV []) (by simp)) hsd hb hTx ho.pw (by rw[tx2];exact kk1) h64 (hM.below hV) (hE.next hV) hb0 hF.2 tX gX cnt TX hga
  have hLF:∀(w':World) (X:TabM) (del add:List Ent) (S:List Nat),TabAt w' b.1 b.2 X→TChg del add Tx X→AddOk H N del add→(∀e∈add,e.hash=H key)→Mod S w w'→(∀q∈nb::footM db rb fb eb vb ob og bbs bs,q∈S→q=b.1∨q=b.2)→∃N',NdAt w' nb (nb::footM db rb fb eb vb ob og bbs bs) N'∧Wr H del add N N':=fun w' X del add S hX hc ha hh hm hS=>by
   refine⟨_, ?_,wr_F ho hp hTx ha hc (fun e he=>by rw[hh e he])⟩;unfold NdAt;rw[show(N.setF Ts next (sideOf N.many N.dpt (H key)) X (slk del add N.sl)).ph= .mov (Ts.set (sideOf N.many N.dpt (H key)) X) next from rfl];refine⟨db,rb,cap,ob,og,fb,fcap,eb,vb,vcap,bbs,bs,h1.mod hm (fun hh=> ?_),h2.setF hb hX hm (fun q hq hqS=>hS q (by simp[hq]) hqS),h3,rfl,h4⟩;rcases hS nb (by simp) hh with e|e
   ·exact h4 (e▸m1)
   ·exact h4 (e▸m2)
  rcases hw with⟨e,he,hek,heh,⟨heT,i,s,hs1,hs2⟩|⟨hn,i,s,hs1,hs2⟩⟩|⟨hn,hs1,hs2⟩
  ·refine⟨b.1,b.2,(seek Tx.gs key (H key)).2.2,Tx,h2.tabs.at_ _ _ _ hb hTx,by simp[m1],by simp[m2],⟨fun e=>h4 (e▸m1),fun e=>h4 (e▸m2)⟩,tx1,by omega,.inl ⟨e,he,hek,heh,i,s,hs1,hs2⟩,fun w' X del add S hX hc ha hh hd hm hS=>hLF w' X del add S hX hc ha hh hm hS,.inr ⟨ob,db,h1,hseek _ _ _ _ ?_⟩⟩;rw[hs1];exact⟨rfl,rfl,rfl,rfl⟩
  ·refine⟨ob,og,(seek Tx.gs key (H key)).2.2+(seek N.T.gs key (H key)).2.2,N.T,h2.tab,by simp[hob],by simp[hog],⟨fun e=>h4 (e▸hob),fun e=>h4 (e▸hog)⟩,ho.tg, ?_,.inl ⟨e,he,hek,heh,i,s,hs1,hs2⟩,fun w' X del add S hX hc ha hh hd hm hS=> ?_,.inr ⟨ob,db,h1,hseek _ _ ((seek Tx.gs key (H key)).2.2+(seek N.T.gs key (H key)).2.2) _ ?_⟩⟩
   ·omega
   ·have hd':del≠[]:=fun e=>by rw[hd e]at hs1;cases hs1
    refine⟨_, ?_,wr_T ho ha hc (fun Ts next hh=>⟨hd',wr_del ha hd'⟩)⟩;obtain⟨e1,e2,e3⟩:=nd_set (N:=N) (s:=slk del add N.sl) hc.len;unfold NdAt;rw[show(N.setT X (slk del add N.sl)).ph= .mov Ts next from hp];refine⟨db,rb,cap,ob,og,fb,fcap,eb,vb,vcap,bbs,bs,h1.mod hm (fun hh=> ?_),by rw[e1,e3];exact h2.setT hX hm (fun q hq hqS=>hS q (by simp[hq]) hqS),h3,rfl,h4⟩;rcases hS nb (by simp) hh with e|e
    ·exact h4 (e▸hob)
    ·exact h4 (e▸hog)
   ·rw[hn,hs1];exact⟨rfl,rfl,rfl,rfl⟩
  ·refine⟨b.1,b.2,(seek Tx.gs key (H key)).2.2+(seek N.T.gs key (H key)).2.2,Tx,h2.tabs.at_ _ _ _ hb hTx,by simp[m1],by simp[m2],⟨fun e=>h4 (e▸m1),fun e=>h4 (e▸m2)⟩,tx1,by omega,.inr ⟨hn,fun e he=>hn e ?_,hs1,fun h0=> ?_⟩,fun w' X del add S hX hc ha hh hd hm hS=>hLF w' X del add S hX hc ha hh hm hS,.inr ⟨ob,db,h1,hseek _ _ _ _ ?_⟩⟩
   ·unfold Nd.ents;rw[hp];exact List.mem_append_left _ (mem_entsTs.2 ⟨_,_,hTx,he⟩)
   ·have hB:=room_fresh ho.pw ho.deep ho.big g1 (s:=N.each*N.many+next+N.sl) (by omega);have:=load_le hTx;rw[tx2];omega
   ·rw[hs1,hs2];exact⟨rfl,rfl,rfl,rfl⟩
end
section
def intCells (l:List Nat):Array Value:=(l.map fun n:Nat=>Value.int .i64 (n:Int)).toArray
theorem intCells_set (l:List Nat)(i n:Nat):(intCells l).setIfInBounds i (.int .i64 (n:Int))=intCells (l.set i n):=by
 unfold intCells;rw[List.setIfInBounds_toArray,List.map_set]
theorem info_int:(Tryz.prog.info? 3).map (fun i=>(i.zero,i.size,i.bytes))=some (some (.int .i64 0),1,8):=by kernel_rfl
theorem make_ints (n:Nat)(hn:n≤65536)(W:World):(Instr.makeSlice 52 (.int .i64 (n:Int)) (.int .i64 (n:Int))).run Tryz.prog W= .ok (.slice (some ⟨W.heap.size,0,none⟩) n n) (W.alloc (.cells (intCells (List.replicate n 0)) 3)):=by
 obtain⟨i,hi,hz0,hz1,hz2⟩:=info_parts info_int;have:=run_makeSlice (P:=Tryz.prog) (w:=W) 52 3 i (.int .i64 0) Tryz.underlying52 hi hz0 .i64 .i64 (n:Int) (n:Int) (by omega) (Int.le_refl _) (by rw[hz1];omega) (by rw[hz2];omega) (by omega);rw[this,hz1,Int.toNat_natCast]
 have e:madeCells (Value.int .i64 0).cells (n*1)=intCells (List.replicate n 0):=by
  rw[made_const (z:=(Value.int .i64 0).cells) (k:=1) (v:= .int .i64 0) rfl (by omega),Nat.mul_one];unfold intCells;rw[List.map_replicate];rfl
 rw[e]
structure DirAt (w:World)(db eb d:Nat)(l:List Nat):Prop where
 blk:Blk w db 192 #[.int .i64 (d:Int),.slice (some ⟨eb,0,none⟩) l.length l.length]
 row:Blk w eb 3 (intCells l)
 len:l.length=2^d
 le:d≤5
 ne:db≠eb
section
variable {w w' : World} {db eb d : Nat} {l : List Nat}
theorem DirAt.mod {S:List Nat}(h:DirAt w db eb d l)(hm:Mod S w w')(h1:db∉S)(h2:eb∉S):DirAt w' db eb d l:=⟨h.blk.mod hm h1,h.row.mod hm h2,h.len,h.le,h.ne⟩
instance {w w':World}{db eb d:Nat}{l:List Nat}:Md (DirAt w db eb d l) w w' (DirAt w' db eb d l) (fun S=>db∉S∧eb∉S):=⟨fun h hm hs=>h.mod hm hs.1 hs.2⟩
theorem DirAt.lt (h:DirAt w db eb d l):db<w.heap.size:=h.blk.lt
theorem DirAt.ltE (h:DirAt w db eb d l):eb<w.heap.size:=h.row.lt
theorem DirAt.cells (h:DirAt w db eb d l):w.cell? ⟨db,0,none⟩=some (.int .i64 (d:Int))∧w.cell? ⟨db,1,none⟩=some (.slice (some ⟨eb,0,none⟩) l.length l.length):=⟨h.blk.cell 0,h.blk.cell 1⟩
theorem DirAt.entry (h:DirAt w db eb d l){i:Nat}(hi:i<l.length):w.cell? ⟨eb,i,none⟩=some (.int .i64 ((l.getD i 0:Nat):Int)):=by
 rw[h.row.cell i];unfold intCells;rw[List.getElem?_toArray,List.getElem?_map,List.getD_eq_getElem?_getD,List.getElem?_eq_getElem hi];rfl
theorem DirAt.set_ (h:DirAt w db eb d l)(i n:Nat):DirAt (w.setCell ⟨eb,i,none⟩ (.int .i64 (n:Int))) db eb d (l.set i n):=by
 refine⟨?_, ?_,by rw[List.length_set];exact h.len,h.le,h.ne⟩
 ·rw[List.length_set];exact h.blk.far (p:=⟨eb,i,none⟩) h.ne _
 ·have:=h.row.set_ i (.int .i64 (n:Int))
  rwa [intCells_set]at this
theorem DirAt.small (h:DirAt w db eb d l):l.length≤32:=by
 rw[h.len];have:=Nat.pow_le_pow_right (n:=2) (by omega) h.le;omega
end
def dirP (b:Nat):Value:= .pointer (some ⟨b,0,none⟩)
theorem dir_New (d:Nat)(hd:d≤5)(w:World):
  Calls Tryz.prog 68 #[.int .i64 (d:Int)] w fun e w'=>e= .returned (.tuple #[dirP (w.heap.size+1),.nilIface])∧DirAt w' (w.heap.size+1) w.heap.size d (List.replicate (2^d) 0)∧Below w.heap.size w w':=by
 have hpw:2^d≤32:=by have:=Nat.pow_le_pow_right (n:=2) (by omega) hd;omega
 have e:((2:Int)^d)=((2^d:Nat):Int):=by simp
 have h1:¬(d:Int)<0:=by omega
 have h2:¬(d:Int)>5:=by omega
 have h3:(2:Int)^d≤65536:=by rw[e];omega
 have h4:(0:Int)≤2^d:=by rw[e];exact Int.natCast_nonneg _
 have h5:(d:Int)≤64:=by omega
 have hmk:=make_ints (2^d) (by omega) w;rw[←e]at hmk
 have HE:=qd (show DirAt ((w.alloc (.cells (intCells (List.replicate (2^d) 0)) 3)).alloc (.cells #[.int .i64 (d:Int),.slice (some ⟨w.heap.size,0,none⟩) (2^d) (2^d)] 192)) (w.heap.size+1) w.heap.size d (List.replicate (2^d) 0)from by
  refine⟨?_,(Blk.new w _ _).alloc _,by simp,hd,by omega⟩;have:=Blk.new (w.alloc (.cells (intCells (List.replicate (2^d) 0)) 3)) 192 #[.int .i64 (d:Int),.slice (some ⟨w.heap.size,0,none⟩) (2^d) (2^d)];rw[World.size_alloc]at this;rw[List.length_replicate]
  exact this)
 clear e hpw hd;unfold dirP;go_in;go_wp2;refine bodyPost_ret (v:= .tuple #[.pointer (some ⟨w.heap.size+1,0,none⟩),.nilIface]) (by simp[results,Tryz.results68,go_sem]) rfl ⟨rfl,HE.out, ?_⟩;exact((Below.refl _ _).alloc (Nat.le_refl _) _).alloc (by simp) _
theorem dir_Depth (db eb d:Nat)(l:List Nat)(w:World)(h:DirAt w db eb d l):Calls Tryz.prog 105 #[dirP db] w fun e w'=>e= .returned (.int .i64 (d:Int))∧w=w':=by
 obtain⟨c0,c1⟩:=h.cells;clear h;unfold dirP;go_in;go_wp2;go_ret;exact⟨rfl,rfl⟩
theorem dir_Len (db eb d:Nat)(l:List Nat)(w:World)(h:DirAt w db eb d l):Calls Tryz.prog 246 #[dirP db] w fun e w'=>e= .returned (.int .i64 (l.length:Int))∧w=w':=by
 obtain⟨c0,c1⟩:=h.cells;clear h;unfold dirP;go_in;go_wp2;go_ret;exact⟨rfl,rfl⟩
theorem dir_At (db eb d:Nat)(l:List Nat)(hash:Nat)(h64:hash<18446744073709551616)(w:World)(h:DirAt w db eb d l):Calls Tryz.prog 97 #[dirP db,.int .u64 (hash:Int)] w fun e w'=>e= .returned (.int .i64 ((l.getD (topOf hash d) 0:Nat):Int))∧w.drew=w':=by
 have hls:=h.len;have hle:=h.le;have htl:=topOf_lt (d:=d) h64 (by omega)
 have hti:topOf hash d<l.length:=by omega
 have ce:=h.entry hti;have HTp:=qd (split_Top hash d h64 (by omega) w.drew);generalize topOf hash d=tp at*
 have hti':(tp:Int)<(l.length:Int):=by omega
 have htp0:(0:Int)≤(tp:Int):=by omega
 have HMu:=qd (must_int (tp:Int) w.drew);obtain⟨v,hv⟩:∃v,v=l.getD tp 0:=⟨_,rfl⟩;rw[←hv]at ce⊢;obtain⟨c0,c1⟩:=h.cells;clear h hls hle htl hv;unfold dirP;go_in;go_upto_region 1 with fail;refine rT (fun(w':World)=>w'.cell? ⟨db,0,none⟩=some (.int .i64 (d:Int))∧w'.cell? ⟨db,1,none⟩=some (.slice (some ⟨eb,0,none⟩) l.length l.length)∧w'.cell? ⟨eb,tp,none⟩=some (.int .i64 (v:Int))) [] ?_;have hHeld:=(⟨c0,c1,ce⟩:_∧_∧_);refine vW 0 rfl ?_;refine vW 1 rfl ?_;refine vW 2 rfl ?_;refine vT 3 rfl ?_;refine vW 4 rfl ?_;refine vW 5 rfl ?_;refine vW 6 rfl ?_;refine vW 7 rfl ?_;refine vT 8 rfl ?_;refine nT 9 rfl fun K hK=> ?_;go_simp;refine(HTp.out).mono ?_;rintro y w1 ⟨rfl,rfl⟩;go_wp2_with fail;have hHeld:=(⟨c0,c1,ce⟩:_∧_∧_);refine kO hK ?_;clear hK K;refine vW 10 rfl ?_;refine vW 11 rfl ?_;refine nT 12 rfl fun K hK=> ?_;go_simp;refine(HMu.out).mono ?_;rintro y w1 ⟨rfl,rfl⟩;go_wp2_with fail;have hHeld:=(⟨c0,c1,ce⟩:_∧_∧_);refine kO hK ?_;clear hK K;refine vW 13 rfl ?_;refine vT 14 rfl ?_;refine vW 15 rfl ?_;refine doneT (by kernel_rfl) ?_ _;go_wp2;go_ret;exact⟨rfl,rfl⟩
theorem dir_Entry (db eb d:Nat)(l:List Nat)(i:Nat)(hi:i<l.length)(w:World)(h:DirAt w db eb d l):Calls Tryz.prog 260 #[dirP db,.int .i64 (i:Int)] w fun e w'=>e= .returned (.tuple #[.int .i64 ((l.getD i 0:Nat):Int),.nilIface])∧w=w':=by
 have hi0:¬(i:Int)<0:=by omega
 have hi1:(0:Int)≤(i:Int):=by omega
 have hi2:(i:Int)<(l.length:Int):=by omega
 have ce:=h.entry hi;obtain⟨v,hv⟩:∃v,v=l.getD i 0:=⟨_,rfl⟩;rw[←hv]at ce⊢;obtain⟨c0,c1⟩:=h.cells;clear h hv;unfold dirP;go_in;go_wp2;refine bodyPost_ret (v:= .tuple #[.int .i64 (v:Int),.nilIface]) (by simp[results,Tryz.results260,go_sem]) rfl ⟨rfl,rfl⟩
theorem dir_Put (db eb d:Nat)(l:List Nat)(i id:Nat)(hi:i<l.length)(w:World)(h:DirAt w db eb d l):Calls Tryz.prog 261 #[dirP db,.int .i64 (i:Int),.int .i64 (id:Int)] w fun e w'=>e= .returned .nilIface∧DirAt w' db eb d (l.set i id)∧Mod [eb] w w':=by
 have hi1:(0:Int)≤(i:Int):=by omega
 have hi2:(i:Int)<(l.length:Int):=by omega
 have hid:¬(id:Int)<0:=by omega
 have ce:=h.entry hi;have fe:=h.row.frozen i;have HEn:=qd (dir_Entry db eb d l i hi w h);have HS:=qd (And.intro (h.set_ i id) ((Mod.refl [eb] w).sl i (.int .i64 (id:Int))));obtain⟨v,hv⟩:∃v,v=l.getD i 0:=⟨_,rfl⟩;rw[←hv]at ce HEn;obtain⟨c0,c1⟩:=h.cells;clear h hv;unfold dirP at HEn⊢;go_in;go_wp2_with fail;refine(HEn.out).mono ?_;rintro y w1 ⟨rfl,rfl⟩;go_wp2;go_ret;exact⟨rfl,HS.out⟩
end
def fromOf (p pd d:Nat):Nat:=p*2^(d-pd)
theorem top_low {p pd d:Nat}(h1:pd≤d)(h2:d≤5):topOf (lowOf p pd) d=fromOf p pd d:=by
 unfold topOf lowOf fromOf;rw[show 64-pd=(d-pd)+(64-d) by omega,Nat.pow_add,←Nat.mul_assoc,Nat.mul_div_cancel _ (Nat.two_pow_pos _)]
theorem from_to {p pd d:Nat}(h1:pd≤d)(hp:p<2^pd):fromOf p pd d+2^(d-pd)≤2^d:=by
 unfold fromOf;have:(p+1)*2^(d-pd)≤2^pd*2^(d-pd):=Nat.mul_le_mul_right _ hp;rw[←Nat.pow_add,show pd+(d-pd)=d by omega,Nat.add_mul,Nat.one_mul]at this;exact this
def setN (l:List Nat)(fr id:Nat):Nat→List Nat
 |0=>l
 |j+1=>(setN l fr id j).set (fr+j) id
theorem setN_length (l:List Nat)(fr id:Nat):∀j,(setN l fr id j).length=l.length
 |0=>rfl
 |j+1=>by unfold setN;rw[List.length_set,setN_length l fr id j]
theorem dir_Span (db eb d:Nat)(l:List Nat)(p pd:Nat)(h1:pd≤d)(hp:p<2^pd)(w:World)(h:DirAt w db eb d l):
  Calls Tryz.prog 248 #[dirP db,.int .i64 (p:Int),.int .i64 (pd:Int)] w fun e w'=>e= .returned (.tuple #[.int .i64 ((fromOf p pd d:Nat):Int),.int .i64 ((fromOf p pd d+2^(d-pd):Nat):Int),.nilIface])∧w.drew=w':=by
 have hd5:=h.le;have hlt:=lowOf_lt (p:=p) (d:=pd) (by omega) hp;have hpos:=Nat.two_pow_pos (64-pd);have hft:=from_to h1 hp
 have hpw:2^d≤32:=by have:=Nat.pow_le_pow_right (n:=2) (by omega) hd5;omega
 have HLo:=qd (fun V:World=>split_Low p pd (by omega) hp V);have HTp:=qd (fun V:World=>split_Top (lowOf p pd) d (by omega) (by omega) V);rw[top_low h1 hd5]at HTp;obtain⟨fr,hfr⟩:∃fr,fr=fromOf p pd d:=⟨_,rfl⟩;rw[←hfr]at hft HTp⊢;obtain⟨k,hk⟩:∃k,k=d-pd:=⟨_,rfl⟩;rw[←hk]at hft⊢
 have e2:((2:Int)^k)=((2^k:Nat):Int):=by simp
 have k0:(k:Int)≤64:=by omega
 have k1:(0:Int)≤(k:Int):=by omega
 have k2:(2:Int)^k≤65536:=by rw[e2];omega
 have k3:(0:Int)≤2^k:=by rw[e2];exact Int.natCast_nonneg _
 have hgt:¬(pd:Int)>(d:Int):=by omega
 have hw1:IntKind.i64.wrap ((d:Int)-(pd:Int))=(k:Int):=by rw[IntKind.wrap_i64];omega
 have hw2:IntKind.i64.wrap ((fr:Int)+(2:Int)^k)=(fr:Int)+(2:Int)^k:=by rw[IntKind.wrap_i64,e2];omega
 have hw3:IntKind.i64.wrap ((2:Int)^k)=(2:Int)^k:=by rw[IntKind.wrap_i64,e2];omega
 have hto:(fr:Int)+(2:Int)^k=((fr+2^k:Nat):Int):=by rw[e2];omega
 have HTo:=qd hto;have HMu:=qd (must_int (fr:Int));obtain⟨c0,c1⟩:=h.cells;clear h hlt hpos hft hpw hfr hk e2 hto hd5 hp h1;unfold dirP;go_in;go_wp2_with fail;refine(HLo.out _).mono ?_;rintro y w1 ⟨rfl,rfl⟩;go_wp2_with fail;refine(HTp.out _).mono ?_;rintro y w1 ⟨rfl,rfl⟩;go_wp2_with fail;refine(HMu.out _).mono ?_;rintro y w1 ⟨rfl,rfl⟩;go_upto_region 7 with fail;refine rT (fun(w':World)=>w'.cell? ⟨db,0,none⟩=some (.int .i64 (d:Int))) [] ?_;have hHeld:=c0;refine vW 0 rfl ?_;refine vW 1 rfl ?_;refine vW 2 rfl ?_;refine vW 3 rfl ?_;refine vW 4 rfl ?_;refine vT 5 rfl ?_;refine vW 6 rfl ?_;refine vW 7 rfl ?_;refine vW 8 rfl ?_;refine vW 9 rfl ?_;refine vW 10 rfl ?_;refine vW 11 rfl ?_;refine vW 12 rfl ?_;refine doneT (by kernel_rfl) ?_ _;go_wp2;refine bodyPost_ret (v:= .tuple #[.int .i64 (fr:Int),.int .i64 ((fr:Int)+(2:Int)^k),.nilIface]) (by simp[results,Tryz.results248,go_sem]) rfl ⟨by rw[HTo.out],rfl⟩
theorem dir_Set (db eb d:Nat)(l:List Nat)(p pd:Nat)(h1:pd≤d)(hp:p<2^pd)(id:Nat)(w:World)(h:DirAt w db eb d l):
  Calls Tryz.prog 219 #[dirP db,.int .i64 (p:Int),.int .i64 (pd:Int),.int .i64 (id:Int)] w fun e w'=>e= .returned (.tuple #[.int .i64 ((2^(d-pd):Nat):Int),.nilIface])∧DirAt w' db eb d (setN l (fromOf p pd d) id (2^(d-pd)))∧Mod [eb] w w':=by
 have hft:=from_to h1 hp;have hlen:=h.len;have hls:=h.small;have HSp:=qd (dir_Span db eb d l p pd h1 hp w h);obtain⟨fr,hfr⟩:∃fr,fr=fromOf p pd d:=⟨_,rfl⟩;obtain⟨n,hn⟩:∃n,n=2^(d-pd):=⟨_,rfl⟩;rw[←hfr,←hn]at hft HSp⊢
 have hin:fr+n≤l.length:=by omega
 have hnp:0<n:=by rw[hn];exact Nat.two_pow_pos _
 have hne1:¬l.length=fr:=by omega
 have hfn:(fr:Int)≤((fr+n:Nat):Int):=by omega
 have hfl:((fr+n:Nat):Int)≤(l.length:Int):=by omega
 have hf0:(0:Int)≤(fr:Int):=by omega
 have hid:¬(id:Int)<0:=by omega
 have hsub:((fr+n:Nat):Int)-(fr:Int)=(n:Int):=by omega
 have HD:=qd (h.mod (Mod.drewN [] w 1) (by simp) (by simp));obtain⟨c0,c1⟩:=h.cells;clear h hfr hn hft hlen hp h1;unfold dirP at HSp⊢;go_in;go_wp2_with fail;refine(HSp.out).mono ?_;rintro y w1 ⟨rfl,hw1⟩;obtain⟨c0,c1⟩:=HD.out.cells;rw[show w.drewN 1=w.drew from rfl,hw1]at c0 c1;go_wp2;have HD1:=qd (show DirAt w1 db eb d l from hw1▸HD.out);have Hm1:=qd (show Mod [eb] w w1 from hw1▸Mod.drewN [eb] w 1);clear hw1 HD c0 c1;go_loopw [13,38] (fun _ i wr=>∃j:Nat,j≤n∧i= .int .i64 j∧DirAt wr db eb d (setN l fr id j)∧Mod [eb] w wr) (fun _ i _=>n-(intOf i).toNat)
 case atStart=>exact⟨0,by omega,rfl,HD1.out,Hm1.out⟩
 case round=>
  clear HD1 Hm1;obtain⟨j,hj,rfl,hD,hm⟩:=hrel;by_cases hlt:j<n
  ·have hlt':(j:Int)<(n:Int):=by omega
   have hj0:(0:Int)≤(j:Int):=by omega
   have hln:(setN l fr id j).length=l.length:=setN_length l fr id j
   have hfj:fr+j<(setN l fr id j).length:=by omega
   have ce:=hD.entry hfj;have fe:=hD.row.frozen (fr+j);have HS:=qd (And.intro (hD.set_ (fr+j) id) (hm.sl (fr+j) (.int .i64 (id:Int))));obtain⟨c0,c1⟩:=hD.cells;rw[hln]at c1;obtain⟨v,hv⟩:∃v,v=(setN l fr id j).getD (fr+j) 0:=⟨_,rfl⟩;rw[←hv]at ce
   have hwr:IntKind.i64.wrap ((fr:Int)+(j:Int))=(fr:Int)+(j:Int):=by rw[IntKind.wrap_i64];omega
   have hs3:(fr:Int)+(j:Int)<(l.length:Int):=by omega
   have hs4:((fr:Int)+(j:Int)).toNat=fr+j:=by omega
   have hs5:(0:Int)≤(fr:Int)+(j:Int):=by omega
   clear hD hm hv hln hfj;go_wp2;go_roundw
   case rel=>exact⟨j+1,by omega,by go_num,HS.out⟩
   case measure=>simp[intOf];omega
  ·obtain rfl:j=n:=by omega
   have hlt':¬(j:Int)<(j:Int):=by omega
   have HF:=qd (And.intro hD hm);clear hD hm;go_wp2;refine bodyPost_ret (v:= .tuple #[.int .i64 ((fr:Int)+(j:Int)-(fr:Int)),.nilIface]) (by simp[results,Tryz.results219,go_sem]) rfl ⟨by rw[show(fr:Int)+(j:Int)-(fr:Int)=(j:Int) by omega],HF.out⟩
end Go.Proofs.YthfgacnlojmmfaaGreatDoor
