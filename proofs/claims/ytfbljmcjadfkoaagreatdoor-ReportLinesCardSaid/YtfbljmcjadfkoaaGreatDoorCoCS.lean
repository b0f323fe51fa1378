/- A core's node that becomes two, and the row that grows by it; a directory that is taken. -/
import Derived.Test.YtfbljmcjadfkoaaGreatDoorCoCI
import Derived.Test.YtfbljmcjadfkoaaGreatDoorSqT
import Derived.Test.YtfbljmcjadfkoaaGreatDoorSq
import Derived.Test.YtfbljmcjadfkoaaGreatDoorSqM
import Derived.Test.YtfbljmcjadfkoaaGreatDoorCoBQ
namespace Go.Proofs.YtfbljmcjadfkoaaGreatDoor
set_option maxRecDepth 100000
set_option maxHeartbeats 8000000
open Go.RowKit AmC Go.Maps
section
variable {id qb : Nat} {val val' : Nat → Value} {ids : List Nat} {w4 : World} {v4 : Value}
section
variable {W0 : World} {E : Nat → Addr} {H : Nat → Nat} {C : CPl} {w0 : World} {G0 : List Nat} {w w' : World} {F : List Nat} {st : CSt}
theorem CoreF.two (h:CoreF W0 E H C w0 G0 w F st){N:Nd}(hN:st.a.Ns[id]?=some N):∃Fi,NdAt w (C.A.nb id) Fi N∧NOk H N∧
  ∀(w':World) (F' F2 S:List Nat) (N0 N1:Nd) (qb:Nat),NdAt w' (C.A.nb id) F' N0→NOk H N0→NdAt w' qb F2 N1→(∀q∈F',q∈Fi)→(∀q∈F2,q∈Fi∨w.heap.size≤q)→(∀q∈F',q∉F2)→Mod S w w'→(∀q∈S,q∈Fi)→
   ∃Fn,CoreF W0 E H C w0 G0 w' Fn {st with a:={st.a with Ns:=st.a.Ns.set id N0}}∧∀q∈F2,q∉C.foot Fn∧(q∈G0∨w0.heap.size≤q)∧W0.heap.size≤q:=by
 obtain⟨Fs,hF,hp⟩:=h.sch.pool;obtain⟨hA,hO⟩:=hp.nds id N hN;have hid:=get_lt hN;have hin:∀q∈Fs id,q∈F:=fun q hq=>hF▸mem_footP.2 (.inl ⟨id,hid,hq⟩);refine⟨Fs id,hA,hO,fun w' F' F2 S N0 N1 qb hA0 hO0 hA1 hF' hF2 hdis hm hS=> ?_⟩;have hP:=hp.node hN hA0 hO0 (fun q hq=> .inl (hF' q hq)) hm (fun q hq=> .inr (hS q hq)) h.sch.env.size h.sch.met.lt;have hS':∀q∈S,q∈F:=fun q hq=>hin q (hS q hq);have hlen:(st.a.Ns.set id N0).length=st.a.Ns.length:=List.length_set
 have hsubF:∀q,q∈footP C.A (fun i=>if i=id then F' else Fs i) {st.a with Ns:=st.a.Ns.set id N0}→q∈F:=fun q hq=>by
  rcases mem_footP.1 hq with⟨i,hi,hq2⟩|hq2
  ·have hi':i<st.a.Ns.length:=by simpa using hi
   by_cases e1:i=id
   ·simp only[if_pos e1]at hq2;exact hin q (hF' q hq2)
   ·simp only[if_neg e1]at hq2;exact hF▸mem_footP.2 (.inl ⟨i,hi',hq2⟩)
  ·exact hF▸mem_footP.2 (.inr hq2)
 refine⟨_,h.upd C.A C.v {st with a:={st.a with Ns:=st.a.Ns.set id N0}} hm (fun q hq=>mem_foot.2 (.inr (.inr (.inl (hS' q hq))))) (h.sch.sch.mod hm (fun q hq hqS=>(h.sch.apart q hq).1 (hS' q hqS))) ⟨_,rfl,hP⟩ (h.sch.met.mod hm (fun hq=>h.hp.mb h.sch.pool (hS' _ hq))) ?_ ?_ (fun q hq=> .inl (hsubF q hq)) (fun g hg=>⟨.inl hg,fun hh=>by have:=(h.row.lt g hg).2;omega⟩),fun q hq=>⟨fun hf=> ?_, ?_, ?_⟩⟩
 ·show w'.ownsRow W0.heap.size 142 1 C.v (st.a.Ns.set id N0).length (nodeRow C.A (st.a.Ns.set id N0).length);rw[hlen];exact core_row (st:=st) h hm (fun q hq=> .inr (.inr (hS' q hq)))
 ·show 1≤(st.a.Ns.set id N0).length;rw[hlen];exact h.pos
 ·have hl:=h.lts;rcases hF2 q hq with h1|h1
  ·rcases mem_foot.1 hf with h2|h2|h2|h2
   ·exact h.hp.mb h.sch.pool (show C.mb∈F from h2▸hin q h1)
   ·exact(h.sch.apart q h2).1 (hin q h1)
   ·rcases mem_footP.1 h2 with⟨i,hi,hq2⟩|hq2
    ·have hi':i<st.a.Ns.length:=by simpa using hi
     by_cases e1:i=id
     ·simp only[if_pos e1]at hq2;exact hdis q hq2 hq
     ·simp only[if_neg e1]at hq2;exact hp.sep i id hi' hid e1 q hq2 h1
    ·exact hp.sepD id hid q h1 hq2
   ·exact h.rap q h2 (by show q∈C.mb::(C.s.blocks++F);simp[hin q h1])
  ·rcases mem_foot.1 hf with h2|h2|h2|h2
   ·have:=hl q (mem_foot.2 (.inl h2));omega
   ·have:=hl q (mem_foot.2 (.inr (.inl h2)));omega
   ·have:=hl q (mem_foot.2 (.inr (.inr (.inl (hsubF q h2)))));omega
   ·have:=hl q (mem_foot.2 (.inr (.inr (.inr h2))));omega
 ·rcases hF2 q hq with h1|h1
  ·exact h.sub q (mem_foot.2 (.inr (.inr (.inl (hin q h1)))))
  ·exact .inr (Nat.le_trans h.mod.size h1)
 ·rcases hF2 q hq with h1|h1
  ·exact h.lows q (mem_foot.2 (.inr (.inr (.inl (hin q h1)))))
  ·have:=h.sch.env.size;omega
def Adr.more (A:Adr)(n qb:Nat):Adr:={A with nb:=fun i=>if i=n then qb else A.nb i}
theorem jobsF_congr (h:∀id∈ids,val id=val' id):jobsF val ids=jobsF val' ids:=by
 funext y;unfold jobsF;by_cases hy:∃id∈ids,y=(id:Int)
 ·obtain⟨id,hid,rfl⟩:=hy;simp[hid,h id hid]
 ·split
  ·next hh=>first|rfl|(exfalso;simp at hh;exact hy ⟨_,hh.2,by omega⟩)|simp_all
  ·rfl
theorem SchAt.reval {w:World}{sb rb jb:Nat}{k b:Int}(h:SchAt w sb qb rb jb k b val ids)(he:∀id∈ids,val id=val' id):SchAt w sb qb rb jb k b val' ids:=
 ⟨h.blk,h.que,by rw[←jobsF_congr he];exact h.map,h.nd,h.apart⟩
theorem CoreF.take (h:CoreF W0 E H C w0 G0 w F st){c:Nat×List Nat}(hc:st.a.cop=some c){w1:World}(hD:DirAt w1 C.A.fb C.A.fe (st.a.d+1) c.2)(hm:Mod [C.A.cb] w w1):
  ∃F',CoreF W0 E H {C with A:={C.A with db:=C.A.fb,eb:=C.A.fe},v:=C.v} w0 G0 ((w1.setCell ⟨C.mb,12,none⟩ (.pointer (some ⟨C.A.fb,0,none⟩))).setCell ⟨C.mb,13,none⟩ (.pointer none)) F' {st with a:={st.a with d:=st.a.d+1,l:=c.2,cop:=none}}:=by
 obtain⟨Fs,hF,hp⟩:=h.sch.pool;have hm2:Mod [C.A.cb,C.mb] w ((w1.setCell ⟨C.mb,12,none⟩ (.pointer (some ⟨C.A.fb,0,none⟩))).setCell ⟨C.mb,13,none⟩ (.pointer none)):=((hm.more (fun k hk=>by simp at hk⊢;exact .inl hk)).set_ (.inl (by simp)) _ _).set_ (.inl (by simp)) _ _
 have hmd:∀q∈[C.A.cb,C.A.fb,C.A.fe],q∈C.A.dirF st.a.cop:=fun q hq=>by
  unfold Adr.dirF;rw[hc];simp at hq⊢;omega
 have hFd:∀q∈C.A.dirF st.a.cop,q∈F:=fun q hq=>hF▸mem_footP.2 (.inr hq);have hmb:∀q∈F,q≠C.mb:=fun q hq e=>h.hp.mb h.sch.pool (show C.mb∈F from e▸hq);have hcopn:=(hp.cop c.1 c.2 hc).nd;simp at hcopn
 have hD2:DirAt ((w1.setCell ⟨C.mb,12,none⟩ (.pointer (some ⟨C.A.fb,0,none⟩))).setCell ⟨C.mb,13,none⟩ (.pointer none)) C.A.fb C.A.fe (st.a.d+1) c.2:=
  hD.mod (S:=[C.mb]) (((Mod.refl _ w1).set_ (.inl (by simp)) _ _).set_ (.inl (by simp)) _ _) (fun hq=>hmb _ (hFd _ (hmd _ (by simp))) (List.mem_singleton.1 hq)) (fun hq=>hmb _ (hFd _ (hmd _ (by simp))) (List.mem_singleton.1 hq))
 have hin:∀q,q∈footP ({C.A with db:=C.A.fb,eb:=C.A.fe}:Adr) Fs {st.a with d:=st.a.d+1,l:=c.2,cop:=none}→q∈F:=fun q hq=>by
  rcases mem_footP.1 hq with⟨i,hi,hq2⟩|hq2
  ·exact hF▸mem_footP.2 (.inl ⟨i,hi,hq2⟩)
  ·refine hFd q (hmd q ?_);unfold Adr.dirF at hq2;simp at hq2⊢;omega
 have hsepd:∀i,i<st.a.Ns.length→∀q∈Fs i,q∉[C.A.cb,C.A.fb,C.A.fe]:=fun i hi q hq hq2=>hp.sepD i hi q hq (hmd q hq2);have hFs:∀i,i<st.a.Ns.length→∀q∈Fs i,q∈F:=fun i hi q hq=>hF▸mem_footP.2 (.inl ⟨i,hi,hq⟩)
 have hS:∀q∈[C.A.cb,C.mb],q∈C.foot F:=fun q hq=>by
  simp at hq;rcases hq with rfl|rfl
  ·exact mem_foot.2 (.inr (.inr (.inl (hFd _ (hmd _ (by simp))))))
  ·exact mem_foot.2 (.inl rfl)
 have hP:PoolIn W0 C.mb H ({C.A with db:=C.A.fb,eb:=C.A.fe}:Adr) ((w1.setCell ⟨C.mb,12,none⟩ (.pointer (some ⟨C.A.fb,0,none⟩))).setCell ⟨C.mb,13,none⟩ (.pointer none)) Fs {st.a with d:=st.a.d+1,l:=c.2,cop:=none}:=
  ⟨fun i N hN=>⟨(hp.nds i N hN).1.mod hm2 (fun q hq hqS=>by
    simp at hqS;rcases hqS with h1|h1
    ·exact hsepd i (get_lt hN) q hq (by simp[h1])
    ·exact hmb q (hFs i (get_lt hN) q hq) h1),(hp.nds i N hN).2⟩,hD2,fun next lf he=>(by cases he),hp.sep,fun i hi q hq hq2=>hsepd i hi q hq (by unfold Adr.dirF at hq2;simp at hq2⊢;omega),fun q hq=>hp.low q (hF▸hin q hq),fun hq=>hmb _ (hin _ hq) rfl,hp.le32⟩
 refine⟨_,h.upd {C.A with db:=C.A.fb,eb:=C.A.fe} C.v {st with a:={st.a with d:=st.a.d+1,l:=c.2,cop:=none}} hm2 hS (h.sch.sch.mod hm2 (fun q hq hqS=> ?_)) ⟨Fs,rfl,hP⟩ ⟨rfl, ?_⟩ (core_row (st:=st) h hm2 (fun q hq=> ?_)) h.pos (fun q hq=> .inl (hin q hq)) (fun g hg=>⟨.inl hg,fun hh=>by have:=(h.row.lt g hg).2;omega⟩)⟩
 ·have ha:=h.sch.apart q hq;simp at hqS;rcases hqS with h1|h1
  ·exact ha.1 (hFd q (hmd q (by simp[h1])))
  ·exact ha.2.1 h1
 ·exact(((Met.blk h.sch.met).mod hm (fun hq=>hmb _ (hFd _ (hmd C.A.cb (by simp))) (List.mem_singleton.1 hq).symm)).set_ 12 _).set_ 13 _
 ·simp at hq;rcases hq with h1|h1
  ·exact .inr (.inr (hFd q (hmd q (by simp[h1]))))
  ·exact .inl h1
end
end
section
variable {W0 w w0 : World} {E : Nat → Addr} {H : Nat → Nat} {C : CPl} {F G0 : List Nat} {st : CSt}
inductive EndS (H:Nat→Nat):Pool→Nat→Pool→Prop
 |take {a:Pool} {c:Nat×List Nat} (hc:a.cop=some c) (hl:c.1=a.l.length):EndS H a 32 {a with d:=a.d+1,l:=c.2,cop:=none}
 |one {a:Pool} {id:Nat} {N:Nd} {X:TabM} (hN:a.Ns[id]?=some N) (hb:N.ph.busy=true) (hl:N.left=0) (ho:NOk H N) (hm:N.many=1) (hk:NOk H ⟨N.pfx,N.dpt,0,0,X,.idle⟩) (he:(Nd.mk N.pfx N.dpt 0 0 X .idle).ents=N.ents) (hx:X.gs.length=N.each):EndS H a id {a with Ns:=a.Ns.set id ⟨N.pfx,N.dpt,0,0,X,.idle⟩}
 | two {a : Pool} {id : Nat} {N : Nd} {X Y : TabM} (hN : a.Ns[id]? = some N) (hb : N.ph.busy = true) (hl : N.left = 0) (ho : NOk H N) (hm : N.many = 2) (hd : N.dpt < a.d) (hk : NOk H ⟨2 * N.pfx, N.dpt + 1, 0, 0, X, .idle⟩) (hk2 : NOk H ⟨2 * N.pfx + 1, N.dpt + 1, 0, 0, Y, .idle⟩)
   (he:(Nd.mk (2*N.pfx) (N.dpt+1) 0 0 X .idle).ents++(Nd.mk (2*N.pfx+1) (N.dpt+1) 0 0 Y .idle).ents=N.ents) (hx:X.gs.length=N.each) (hy:Y.gs.length=N.each):EndS H a id (a.split id ⟨2*N.pfx,N.dpt+1,0,0,X,.idle⟩ ⟨2*N.pfx+1,N.dpt+1,0,0,Y,.idle⟩)
def EndPost (W0:World)(E:Nat→Addr)(H:Nat→Nat)(C:CPl)(w0:World)(G0:List Nat)(st:CSt)(id:Nat)(w':World):Prop:=∃(A':Adr) (v':Value) (F':List Nat) (a':Pool) (x':Mtr) (u:Nat),EndS H st.a id a'∧CoreF W0 E H {C with A:=A',v:=v'} w0 G0 w' F' {st with a:=a',x:=x'}∧Cost st.x x' 0 u
end
section
variable {Ns : List Nd} {id : Nat} {N N' : Nd} {H : Nat → Nat} {ids : List Nat}
def Pool.ents (a:Pool):List Ent:=a.Ns.flatMap Nd.ents
def Pool.groups (a:Pool):Nat:=(a.Ns.map Nd.groups).sum
structure StepOk (a a':Pool):Prop where
 len:a'.Ns.length=a.Ns.length
 cop:a'.cop.isSome=a.cop.isSome
 can_:∀j,a'.can j↔a.can j
 ents:a'.ents.Perm a.ents
 groups:a'.groups=a.groups
 d:a'.d=a.d
 l:a'.l=a.l
 nds:∀(i:Nat) (N':Nd),a'.Ns[i]?=some N'→∃N,a.Ns[i]?=some N∧Like N N'∧N'.sl≤N.sl
theorem StepOk.refl (a:Pool):StepOk a a:=⟨rfl,rfl,fun _=>Iff.rfl,.refl _,rfl,rfl,rfl,fun _ N h=>⟨N,h,Like.refl N,Nat.le_refl _⟩⟩
theorem StepOk.trans {a b c:Pool}(h:StepOk a b)(k:StepOk b c):StepOk a c:=
 ⟨k.len.trans h.len,k.cop.trans h.cop,fun j=>(k.can_ j).trans (h.can_ j),k.ents.trans h.ents,k.groups.trans h.groups,k.d.trans h.d,k.l.trans h.l,fun i N' hN=>by
  obtain⟨N1,h1,h2,h3⟩:=k.nds i N' hN;obtain⟨N,h4,h5,h6⟩:=h.nds i N1 h1
  exact⟨N,h4,h5.trans h2,Nat.le_trans h3 h6⟩⟩
structure CInv (a:Pool)(ids pend:List Nat):Prop where
 dir:DirOk a
 can_:∀id,a.can id↔id∈ids∨id∈pend
 nd:ids.Nodup
 ndp:pend.Nodup
 dis:∀i∈ids,i∉pend
 lft:∀id∈pend,a.left id=0
 some_:∀id∈ids,1≤a.left id
 sl:∀(i:Nat) (N:Nd),a.Ns[i]?=some N→i∉pend→N.sl=0
theorem StepOk.nd {a a':Pool}(h:StepOk a a'){i:Nat}(hN:a.Ns[i]?=some N):∃N',a'.Ns[i]?=some N'∧Like N N'∧N'.sl≤N.sl:=by
 obtain⟨N',hN'⟩:∃N',a'.Ns[i]?=some N':=⟨_,List.getElem?_eq_getElem (by rw[h.len];exact get_lt hN)⟩;obtain⟨N2,h1,h2,h3⟩:=h.nds i N' hN';rw[hN]at h1;cases h1;exact⟨N',hN',h2,h3⟩
inductive BegS (a:Pool)(ids:List Nat)(id:Nat):Pool→List Nat→Prop
 |busy {N:Nd} (hN:a.Ns[id]?=some N) (hb:N.ph.busy=true):BegS a ids id a ids
 |none {N:Nd} (hN:a.Ns[id]?=some N) (hi:N.ph= .idle) (hk:whichK N.T.live N.T.tombs N.len N.dpt a.d=0):BegS a ids id {a with Ns:=a.Ns.set id {N with sl:=0}} ids
 |start {N:Nd} {kind:Nat} (hN:a.Ns[id]?=some N) (hi:N.ph= .idle) (hk:whichK N.T.live N.T.tombs N.len N.dpt a.d=kind) (h0:kind≠0):BegS a ids id {a with Ns:=a.Ns.set id (N.start kind)} (ids++[id])
def DblB (a:Pool)(id:Nat):Prop:=∃N,a.Ns[id]?=some N∧doubleB N.T.live N.T.tombs N.len N.dpt a.d=true
inductive DblS (p:Prop)(a:Pool)(ids:List Nat):Pool→List Nat→Prop
 |not:DblS p a ids a ids
 |yes (hp:p) (hc:a.cop=none) (hd:a.d<5):DblS p a ids {a with cop:=some (0,List.replicate (2^(a.d+1)) 0)} (ids++[32])
inductive EndAll (H:Nat→Nat):Pool→List Nat→Pool→Prop
 |nil (a:Pool):EndAll H a [] a
 |cons {a b c:Pool} {id:Nat} {l:List Nat} (h:EndS H a id b) (r:EndAll H b l c):EndAll H a (id::l) c
structure Maint (H:Nat→Nat)(K:Nat)(a:Pool)(ids:List Nat)(id:Nat)(a':Pool)(ids':List Nat):Prop where
 ex:∃a1 ids1 a2 ids2 a3 e1 ids3 a4,BegS a ids id a1 ids1∧DblS (DblB a id) a1 ids1 a2 ids2∧OwnRun Pool.left (Pool.step H) ids2 id (8*K) a2 a3∧Oth Pool.left (Pool.step H) K ids2 a3 e1 ids3 a4∧EndAll H a4 (e1++doneL Pool.left a4 ids3) a'∧ids'=liveL Pool.left a4 ids3
structure CPre (a:Pool)(ids:List Nat)(own:Nat):Prop where
 dir:DirOk a
 can_:∀id,a.can id↔id∈ids
 nd:ids.Nodup
 some_:∀id∈ids,1≤a.left id
 sl:∀(i:Nat) (N:Nd),a.Ns[i]?=some N→i≠own→N.sl=0
end
section
variable {N : Nd} {a a1 : Pool} {i own : Nat} {H : Nat → Nat} {F G0 ids ids1 : List Nat} {W0 w w0 : World} {E : Nat → Addr} {C : CPl} {st : CSt}
structure CSrv (a:Pool)(ids:List Nat)(own:Nat):Prop where
 pre:CPre a ids own
 slo:∀N:Nd,a.Ns[own]?=some N→N.ph.busy=false→N.sl=0
 sl8:∀N:Nd,a.Ns[own]?=some N→N.sl≤8
theorem CoreF.bounds (h:CoreF W0 E H C w0 G0 w F st):st.a.d≤5∧st.a.Ns.length≤32∧(∀c,st.a.cop=some c→st.a.d<5)∧(∀(i:Nat) (N:Nd),st.a.Ns[i]?=some N→NOk H N):=by
 obtain⟨Fs,hF,hp⟩:=h.sch.pool;exact⟨hp.dir.le,hp.le32,fun c hc=>(hp.cop c.1 c.2 hc).fresh.le,fun i N hN=>(hp.nds i N hN).2⟩
end
section
section
variable {W0 : World} {E : Nat → Addr} {H : Nat → Nat} {C : CPl} {w0 : World} {G0 : List Nat} {w w' : World} {F : List Nat} {st : CSt}
theorem CoreF.double (h:CoreF W0 E H C w0 G0 w F st){cb fb fe:Nat}{w1:World}(hc:st.a.cop=none)(hC:CopAt w1 cb C.A.db C.A.eb fb fe st.a.d 0 st.a.l (List.replicate (2^(st.a.d+1)) 0))(h1:w.heap.size≤cb)(h2:w.heap.size≤fb)(h3:w.heap.size≤fe)(hb:Below w.heap.size w w1)(hids:32∉st.ids):
  ∃F',CoreF W0 E H {C with A:={C.A with cb:=cb,fb:=fb,fe:=fe},v:=C.v} w0 G0 (w1.setCell ⟨C.mb,13,none⟩ (.pointer (some ⟨cb,0,none⟩))) F' {st with a:={st.a with cop:=some (0,List.replicate (2^(st.a.d+1)) 0)}}:=by
 obtain⟨Fs,hF,hp⟩:=h.sch.pool;have hml:C.mb<w.heap.size:=h.sch.met.lt;have hm:Mod [C.mb] w (w1.setCell ⟨C.mb,13,none⟩ (.pointer (some ⟨cb,0,none⟩))):=(Mod.of_below hb [C.mb]).set_ (.inl (by simp)) _ _;have hmb:∀q∈F,q∉[C.mb]:=fun q hq e=>h.hp.mb h.sch.pool (by show C.mb∈F;rw[←List.mem_singleton.1 e];exact hq);have hlts:=h.lts;have hFl:∀q∈F,q<w.heap.size:=fun q hq=>hlts q (mem_foot.2 (.inr (.inr (.inl hq))));have hFs:∀i,i<st.a.Ns.length→∀q∈Fs i,q∈F:=fun i hi q hq=>hF▸mem_footP.2 (.inl ⟨i,hi,hq⟩);have hFd:∀q∈C.A.dirF st.a.cop,q∈F:=fun q hq=>hF▸mem_footP.2 (.inr hq)
 have hC2:CopAt (w1.setCell ⟨C.mb,13,none⟩ (.pointer (some ⟨cb,0,none⟩))) cb C.A.db C.A.eb fb fe st.a.d 0 st.a.l (List.replicate (2^(st.a.d+1)) 0):=
  hC.mod (S:=[C.mb]) ((Mod.refl _ w1).set_ (.inl (by simp)) _ _) (fun q hq hqS=>by
   have:=List.mem_singleton.1 hqS;simp at hq;rcases hq with e|e|e|e|e
   ·omega
   ·exact hmb q (hFd q (by unfold Adr.dirF;simp[e])) (by simp[this])
   ·exact hmb q (hFd q (by unfold Adr.dirF;simp[e])) (by simp[this])
   ·omega
   ·omega)
 have hdf:∀q,q∈({C.A with cb:=cb,fb:=fb,fe:=fe}:Adr).dirF (some (0,List.replicate (2^(st.a.d+1)) 0))↔q∈C.A.dirF st.a.cop∨q=cb∨q=fb∨q=fe:=fun q=>by
  unfold Adr.dirF;rw[hc];simp;omega
 have hin:∀q,q∈footP ({C.A with cb:=cb,fb:=fb,fe:=fe}:Adr) Fs {st.a with cop:=some (0,List.replicate (2^(st.a.d+1)) 0)}→q∈F∨w.heap.size≤q:=fun q hq=>by
  rcases mem_footP.1 hq with⟨i,hi,hq2⟩|hq2
  ·exact .inl (hFs i hi q hq2)
  ·rcases(hdf q).1 hq2 with e|e|e|e
   ·exact .inl (hFd q e)
   ·exact .inr (by omega)
   ·exact .inr (by omega)
   ·exact .inr (by omega)
 have hP:PoolIn W0 C.mb H ({C.A with cb:=cb,fb:=fb,fe:=fe}:Adr) (w1.setCell ⟨C.mb,13,none⟩ (.pointer (some ⟨cb,0,none⟩))) Fs {st.a with cop:=some (0,List.replicate (2^(st.a.d+1)) 0)}:=
  ⟨fun i N hN=>⟨(hp.nds i N hN).1.mod hm (fun q hq=>hmb q (hFs i (get_lt hN) q hq)),(hp.nds i N hN).2⟩,hC2.old,fun next lf he=>by
   have:=Option.some.inj he;cases this
   exact hC2,hp.sep,fun i hi q hq hq2=>by
   have hq':=hFs i hi q hq;rcases(hdf q).1 hq2 with e|e|e|e
   ·exact hp.sepD i hi q hq e
   ·have:=hFl q hq';omega
   ·have:=hFl q hq';omega
   ·have:=hFl q hq';omega,fun q hq=>by
   rcases hin q hq with e|e
   ·exact hp.low q (hF▸e)
   ·have:=h.sch.env.size;omega,fun hq=>by
   rcases hin _ hq with e|e
   ·exact hmb _ e (by simp)
   ·omega,hp.le32⟩
 refine⟨_,h.upd {C.A with cb:=cb,fb:=fb,fe:=fe} C.v {st with a:={st.a with cop:=some (0,List.replicate (2^(st.a.d+1)) 0)}} hm (fun q hq=>mem_foot.2 (.inl (List.mem_singleton.1 hq))) ((h.sch.sch.mod hm (fun q hq hqS=>(h.sch.apart q hq).2.1 (List.mem_singleton.1 hqS))).reval (fun id hid=> ?_)) ⟨Fs,rfl,hP⟩ ⟨rfl, ?_⟩ (core_row (st:=st) h hm (fun q hq=> .inl (List.mem_singleton.1 hq))) h.pos hin (fun g hg=>⟨.inl hg,fun hh=>by have:=(h.row.lt g hg).2;omega⟩)⟩
 ·have hne:id≠32:=fun e=>hids (e▸hid);show C.A.val id=({C.A with cb:=cb,fb:=fb,fe:=fe}:Adr).val id;unfold Adr.val Adr.ja;simp only;rw[if_neg hne,if_neg hne];rfl
 ·exact((Met.blk h.sch.met).mod (Mod.of_below hb []) (by simp)).set_ 13 _
end
def MtPost (W0:World)(E:Nat→Addr)(H:Nat→Nat)(C:CPl)(w0:World)(G0:List Nat)(st:CSt)(id:Nat)(w':World):Prop:=
 ∃(A':Adr) (v':Value) (F':List Nat) (a':Pool) (ids':List Nat) (b':Int) (x':Mtr) (u:Nat),Maint H C.K st.a st.ids id a' ids'∧CInv a' ids' []∧a'.ents.Perm st.a.ents∧CoreF W0 E H {C with A:=A',v:=v'} w0 G0 w' F' {st with a:=a',ids:=ids',b:=b',x:=x'}∧Cost st.x x' 0 u
end
section
variable {a : Pool} {e : Ent} {id key : Nat} {N : Nd}
theorem pool_nodup {H:Nat→Nat}(hd:DirOk a)(h5:a.d≤5)(ho:∀(i:Nat) (N:Nd),a.Ns[i]?=some N→NOk H N):(a.ents.map Ent.key).Nodup:=by
 unfold Pool.ents;rw[List.map_flatMap];unfold List.Nodup;rw[List.pairwise_flatMap];refine⟨fun N hN=> ?_, ?_⟩
 ·obtain⟨i,hi⟩:=List.getElem?_of_mem hN;exact(ho i N hi).keys
 ·rw[List.pairwise_iff_getElem];intro i j hi hj hij x hx y hy hxy;obtain⟨e,he,rfl⟩:=List.mem_map.1 hx;obtain⟨e',he',rfl⟩:=List.mem_map.1 hy;have g1:a.Ns[i]?=some a.Ns[i]:=List.getElem?_eq_getElem hi;have g2:a.Ns[j]?=some a.Ns[j]:=List.getElem?_eq_getElem hj;obtain⟨k1,k2⟩:=(ho _ _ g1).hash e he;obtain⟨k3,k4⟩:=(ho _ _ g2).hash e' he'
  have hh:e.hash=e'.hash:=by rw[k1.hash,k3.hash,hxy]
  have a1:=hd.is_ k1.h64 h5 g1 k2;have a2:=hd.is_ k3.h64 h5 g2 k4;rw[hh,a2]at a1;omega
theorem mem_pool:e∈a.ents↔∃(i:Nat) (N:Nd),a.Ns[i]?=some N∧e∈N.ents:=by
 unfold Pool.ents;rw[List.mem_flatMap];constructor
 ·rintro⟨N,h1,h2⟩;obtain⟨i,hi⟩:=List.getElem?_of_mem h1;exact⟨i,N,hi,h2⟩
 ·rintro⟨i,N,h1,h2⟩;exact⟨N,List.mem_of_getElem? h1,h2⟩
def WrPost (W0:World)(E:Nat→Addr)(H:Nat→Nat)(C:CPl)(w0:World)(G0:List Nat)(st:CSt)(id:Nat)(del add:List Ent)(len':Nat)(w':World):Prop:=
 ∃(N N1:Nd) (x1:Mtr),st.a.Ns[id]?=some N∧Wr H del add N N1∧Cost ⟨st.x.all,⟨0,0,0⟩⟩ x1 128 0∧MtPost W0 E H C w0 G0 {st with a:={st.a with Ns:=st.a.Ns.set id N1},len:=len',x:=x1} id w'
section
variable {W0 : World} {E : Nat → Addr} {H : Nat → Nat} {C : CPl} {w0 : World} {G0 : List Nat} {w w' : World} {F : List Nat} {st : CSt}
theorem Wr.refl (h:NOk H N):Wr H [] [] N N:=⟨Like.refl N,rfl,⟨N.ents,by simp,by simp⟩,h,fun _=>rfl,fun _=>Nat.le_add_right _ _⟩
end
end
section
variable {W0 w w0 : World} {E : Nat → Addr} {H : Nat → Nat} {C : CPl} {F G0 : List Nat} {st : CSt}
def LePost (W0:World)(E:Nat→Addr)(H:Nat→Nat)(C:CPl)(w0:World)(G0:List Nat)(F:List Nat)(st:CSt)(key hash:Nat)(v:Value)(w':World):Prop:=
 ∃(id:Nat) (N:Nd) (o:Option Ent) (x':Mtr),st.a.Ns[id]?=some N∧id=st.a.l.getD (topOf hash st.a.d) 0∧IsLeast ⟨key,0,hash⟩ N.ents o∧v= .tuple #[entV (o.getD ⟨0,0,0⟩),.bool o.isSome,.int .u64 ((highOf N.pfx N.dpt:Nat):Int)]∧CoreF W0 E H C w0 G0 w' F {st with x:=x'}∧Cost ⟨st.x.all,⟨0,0,0⟩⟩ x' 192 0
end
section
variable {W0 w w0 : World} {E : Nat → Addr} {H : Nat → Nat} {C : CPl} {F G0 : List Nat} {st : CSt}
end
section
variable {W0 w : World} {E : Nat → Addr} {N : Nd} {H : Nat → Nat}
def nd0:Nd:=⟨0,0,0,0,prepT 1 1,.idle⟩
def pool0:Pool:=⟨[nd0],0,[0],none⟩
theorem nd0_ok (H:Nat→Nat):NOk H nd0:=by
 obtain⟨h1,h2,h3⟩:=tg_bare (n:=1) (.inl rfl)
 have hE:nd0.ents=[]:=by unfold Nd.ents nd0;rw[h2];rfl
 refine⟨h1,Nat.zero_le _,.inl rfl,by decide,Nat.zero_le _,by rw[hE];exact List.nodup_nil,fun e he=>(by rw[hE]at he;cases he),by rw[hE];exact Nat.zero_le _,rfl, ?_⟩;show load (prepT 1 1)≤_;rw[h3];exact Nat.zero_le _
theorem ents0:pool0.ents=[]:=by
 obtain⟨h1,h2,h3⟩:=tg_bare (n:=1) (.inl rfl)
 have hE:nd0.ents=[]:=by unfold Nd.ents nd0;rw[h2];rfl
 unfold Pool.ents pool0;simp[hE]
theorem inv0:CInv pool0 [] []:=by
 have hget:∀(i:Nat) (N:Nd),pool0.Ns[i]?=some N→i=0∧N=nd0:=fun i N hN=>by
  have h1:i<1:=get_lt hN
  obtain rfl:i=0:=by omega
  exact⟨rfl,(Option.some.inj hN).symm⟩
 refine⟨⟨fun i N hN=> ?_,fun j hj=> ?_,fun i N j hN hj hp=> ?_,rfl,fun i N hN hb=> ?_,fun c hc=>by cases hc⟩,fun id=> ?_,List.nodup_nil,List.nodup_nil,fun i hi=>(by cases hi),fun i hi=>(by cases hi),fun i hi=>(by cases hi),fun i N hN _=> ?_⟩
 ·obtain⟨_,rfl⟩:=hget i N hN;exact⟨Nat.le_refl _,by decide⟩
 ·have h1:j<1:=hj
  obtain rfl:j=0:=by omega
  exact⟨nd0,rfl,rfl⟩
 ·obtain⟨rfl,rfl⟩:=hget i N hN;have h1:j<1:=hj
  obtain rfl:j=0:=by omega
  rfl
 ·obtain⟨_,rfl⟩:=hget i N hN;cases hb
 ·constructor
  ·rintro(⟨N,h1,h2⟩|⟨_,_,c,h3⟩)
   ·obtain⟨_,rfl⟩:=hget id N h1;cases h2
   ·cases h3
  ·rintro(h|h)<;>cases h
 ·obtain⟨_,rfl⟩:=hget i N hN;rfl
def coreCells (K M I db sb vb:Nat):Array Value:= #[.int .i64 (K:Int),.int .i64 (M:Int),.int .i64 (I:Int),.int .i64 0,.int .i64 0,.int .i64 0,.int .i64 0,.int .i64 0,.int .i64 0,.bool false,.int .i64 0,.slice (some ⟨vb,0,none⟩) 1 1,.pointer (some ⟨db,0,none⟩),.pointer none,.pointer (some ⟨sb,0,none⟩),.int .i64 0]
def st0:CSt:=⟨pool0,[],0,0,mtr0⟩
def adr0 (nb db eb:Nat):Adr:=⟨fun _=>nb,db,eb,0,0,0⟩
theorem CoreF.fresh (H:Nat→Nat){w5:World}{nb tb gb db eb sb qb rb jb vb K M I:Nat}(hE:Env W0 E w)(hK:1≤K∧K≤64)(hM:1≤M∧M≤192)(hb:Below w.heap.size w w5)(hN:NdAt w5 nb [nb,tb,gb] nd0)(hD:DirAt w5 db eb 0 [0])(hS:SchAt w5 sb qb rb jb (K:Int) 0 (adr0 nb db eb).val [])(hR:w5.ownsRow W0.heap.size 142 1 (.slice (some ⟨vb,0,none⟩) 1 1) 1 [.pointer (some ⟨nb,0,none⟩)])(hlow:∀q∈[nb,tb,gb,db,eb,sb,qb,rb,jb,vb],w.heap.size≤q)(hap:∀q∈[nb,tb,gb],q∉[db,eb,sb,qb,rb,jb,vb])(hap2:∀q∈[db,eb],q∉[sb,qb,rb,jb,vb])(hap3:∀q∈[sb,qb,rb,jb],q≠vb):
  ∃F,CoreF W0 E H ⟨w5.heap.size,sb,qb,rb,jb,adr0 nb db eb,.slice (some ⟨vb,0,none⟩) 1 1,K,M,I,0⟩ w [] (w5.alloc (.cells (coreCells K M I db sb vb) 154)) F st0:=by
 have hb6:Below w5.heap.size w5 (w5.alloc (.cells (coreCells K M I db sb vb) 154)):=(Below.refl _ _).alloc (Nat.le_refl _) _;have hm6:=Mod.of_below hb6 [];have hz:=hb.size;have hzW:=hE.size;have hvl:=(hR.lt vb rfl).2;have hNl:=hN.lts;have hSl:=hS.lt
 have hgetN:∀(i:Nat) (N:Nd),[nd0][i]?=some N→i=0∧N=nd0:=fun i N hh=>by
  have h1:i<1:=get_lt hh
  obtain rfl:i=0:=by omega
  exact⟨rfl,(Option.some.inj hh).symm⟩
 have hfp:∀q,q∈footP (adr0 nb db eb) (fun _=> [nb,tb,gb]) pool0↔q∈[nb,tb,gb,db,eb]:=fun q=>by
  rw[mem_footP];constructor
  ·rintro(⟨i,_,hq⟩|hq)
   ·simp at hq⊢;omega
   ·unfold Adr.dirF adr0 pool0 at hq;simp at hq⊢;omega
  ·intro hq;by_cases h1:q∈[nb,tb,gb]
   ·exact .inl ⟨0,by decide,h1⟩
   ·refine .inr ?_;unfold Adr.dirF adr0 pool0;simp at hq h1⊢;omega
 have hPool:PoolIn W0 w5.heap.size H (adr0 nb db eb) (w5.alloc (.cells (coreCells K M I db sb vb) 154)) (fun _=> [nb,tb,gb]) pool0:=by
  refine⟨fun i N hi=> ?_,hD.mod hm6 (by simp) (by simp),fun next lf hc=>(by cases hc),fun i j hi hj hij=> ?_,fun i hi q hq hq2=> ?_,fun q hq=> ?_,fun hq=> ?_,by decide⟩
  ·obtain⟨_,rfl⟩:=hgetN i N hi;exact⟨hN.mod hm6 (by simp),nd0_ok H⟩
  ·have h1:i<1:=hi;have h2:j<1:=hj;omega
  ·unfold Adr.dirF adr0 pool0 at hq2;exact hap q hq (by simp at hq2⊢;omega)
  ·have h1:=(hfp q).1 hq;have:=hlow q (by simp at h1⊢;omega);omega
  ·have h1:=(hfp _).1 hq;simp at h1;have h2:=hD.lt;have h3:=hD.ltE;have h4:=hNl nb (by simp);have h5:=hNl tb (by simp);have h6:=hNl gb (by simp);omega
 have hmet:MetP (w5.alloc (.cells (coreCells K M I db sb vb) 154)) (cmp ⟨w5.heap.size,sb,qb,rb,jb,adr0 nb db eb,.slice (some ⟨vb,0,none⟩) 1 1,K,M,I,0⟩ st0) mtr0:=⟨rfl,Blk.new w5 154 (coreCells K M I db sb vb)⟩;have hsb:∀q∈[sb,qb,rb,jb],q<w5.heap.size:=hSl;refine⟨footP (adr0 nb db eb) (fun _=> [nb,tb,gb]) pool0,SchSt.start (hS.mod hm6 (by simp)) ⟨_,rfl,hPool⟩ hmet (hE.mod ((Mod.of_below hb []).then hm6) (by simp)) (fun q hq=>⟨fun hqF=> ?_, ?_, ?_⟩) (by show W0.heap.size≤w5.heap.size;omega),hR.alloc _,fun g hg hq=> ?_,by decide,hK,hM,hzW,fun q hq=> ?_,(Mod.of_below hb []).then hm6⟩
 ·have hq':q∈[sb,qb,rb,jb]:=hq;have h1:=(hfp q).1 hqF;by_cases h2:q∈[nb,tb,gb]
  ·exact hap q h2 (by simp at hq'⊢;omega)
  ·exact hap2 q (by simp at h1 h2⊢;omega) (by simp at hq'⊢;omega)
 ·have:=hsb q hq;show q≠w5.heap.size;omega
 ·have hq':q∈[sb,qb,rb,jb]:=hq;have:=hlow q (by simp at hq'⊢;omega);omega
 ·have hg':g=vb:=by simpa using(Option.some.inj hg).symm
  subst hg'
  have hq':g=w5.heap.size∨g∈[sb,qb,rb,jb]∨g∈footP (adr0 nb db eb) (fun _=> [nb,tb,gb]) pool0:=by
   rcases List.mem_cons.1 hq with h3|h3
   ·exact .inl h3
   ·exact .inr (List.mem_append.1 h3)
  rcases hq' with h1|h1|h1
  ·omega
  ·exact hap3 g h1 rfl
  ·have h2:=(hfp g).1 h1;by_cases h3:g∈[nb,tb,gb]
   ·exact hap g h3 (by simp)
   ·exact hap2 g (by simp at h2 h3⊢;omega) (by simp)
 ·right;rcases mem_foot.1 hq with h1|h1|h1|h1
  ·have h2:q=w5.heap.size:=h1;omega
  ·have h2:q∈[sb,qb,rb,jb]:=h1;exact hlow q (by simp at h2⊢;omega)
  ·have h2:=(hfp q).1 h1;exact hlow q (by simp at h2⊢;omega)
  ·have h2:q=vb:=by simpa using(Option.some.inj h1).symm
   exact hlow q (by simp[h2])
def groupsTo (Ns:List Nd)(i:Nat):Nat:=((Ns.take i).map Nd.groups).sum
theorem groupsTo_next {Ns:List Nd}{i:Nat}(h:Ns[i]?=some N):groupsTo Ns (i+1)=groupsTo Ns i+N.groups:=by
 unfold groupsTo;rw[List.take_add_one,h];simp
theorem groups_le (h:NOk H N):N.groups≤192:=by
 have h1:=h.pw.le;have hph:=h.ph;unfold PhOk at hph;unfold Nd.groups
 cases hp:N.ph with
 |idle=>simp[Phase.busy];omega
 |bld k=>
  rw[hp]at hph;have:=kind_each h.pw hph.1;simp[Phase.busy];omega
 |mov Ts next=>
  rw[hp]at hph;have:=kind_each h.pw hph.1;simp[Phase.busy];omega
theorem core_Groups {C:CPl}{w0:World}{G0:List Nat}{F:List Nat}{st:CSt}(h:CoreF W0 E H C w0 G0 w F st):Calls Tryz.prog 65 #[coreP C.mb] w fun e w'=>e= .returned (.int .i64 (st.a.groups:Int))∧w=w':=by
 obtain⟨b1,b2,b3,b4⟩:=h.bounds;have HC:=qd h;obtain⟨c0,c1,c11,c12,c13,c14,c15⟩:=HC.out.cells;obtain⟨vb,cap,hv,hr⟩:=h.rowAt;rw[hv]at c11;obtain⟨Fs,hF,hp⟩:=h.sch.pool;have HR:=qd hr;have HP:=qd hp;have HB4:=qd b4;obtain⟨Ns,hNs⟩:∃Ns,Ns=st.a.Ns:=⟨_,rfl⟩;have HNs:=qd hNs;obtain⟨n,hn⟩:∃n,n=st.a.Ns.length:=⟨_,rfl⟩
 have hn32:n≤32:=by omega
 have HNn:=qd hn;rw[←hn]at c11;clear h hv hr hp hF b1 b2 b3 b4 hNs hn;unfold coreP;go_in;go_wp2;go_loopw [3,5,11] (fun v3 _ v11 wr=>∃(i s:Nat),i≤n∧s≤192*i∧v11= .int .i64 (i:Int)∧v3= .int .i64 (s:Int)∧Hid (s=groupsTo st.a.Ns i)∧wr=w) (fun _ _ v11 _=>n-(intOf v11).toNat)
 case atStart=>exact⟨0,0,by omega,by omega,rfl,rfl,qd rfl,rfl⟩
 case round=>
  obtain⟨i,s,hi,hs,rfl,rfl,HS,rfl⟩:=hrel;by_cases hlt:i<n
  ·have hlt':(i:Int)<(n:Int):=by omega
   have hi0:(0:Int)≤(i:Int):=by omega
   obtain⟨N,hN⟩:∃N,st.a.Ns[i]?=some N:=⟨_,List.getElem?_eq_getElem (by have:=HNn.out;omega)⟩;obtain⟨hA,hO⟩:=HP.out.nds i N hN;have cr:=HR.out i (get_lt hN);have HG:=qd (nd_Groups hA hO);have hgl:=groups_le hO;obtain⟨gr,hgr⟩:∃gr,gr=N.groups:=⟨_,rfl⟩;rw[←hgr]at HG hgl;have HSn:=qd (show s+gr=groupsTo st.a.Ns (i+1)from by rw[groupsTo_next hN,←HS.out,hgr]);unfold nodeP at HG;clear hN hA hO hgr;go_wp2_with fail;refine HG.out.mono ?_;rintro x w1 ⟨rfl,rfl⟩;go_wp2;go_roundw
   case rel=>exact⟨i+1,s+gr,by omega,by omega,by go_num,by first|go_num|(simp;omega),HSn,by trivial⟩
   case measure=>simp[intOf];omega
  ·obtain rfl:i=n:=by omega
   have hlt':¬(i:Int)<(i:Int):=by omega
   have HF:=qd (show s=st.a.groups from by rw[HS.out,HNn.out];unfold groupsTo Pool.groups;rw[List.take_length]);go_wp2;go_ret;rw[←HF.out];exact⟨rfl,rfl⟩
end
section
variable {W0 w : World} {E : Nat → Addr}
def NewAt (W0:World)(E:Nat→Addr)(H:Nat→Nat)(K M:Nat)(w:World)(mb:Nat)(w':World):Prop:=∃(C:CPl) (F:List Nat),C.mb=mb∧C.K=K∧C.M=M∧CoreF W0 E H C w [] w' F st0
theorem core_New_bad (hE:Env W0 E w)(k m i:Int)(hcf:cfgOk k m i=false):Calls Tryz.prog 53 #[cfgV k m i] w fun e w'=>e= .returned (.tuple #[.pointer none,errV E 1])∧Below w.heap.size w w':=by
 have HEr:=qd hE;have hB0:=Blk.new w 23 #[.int .i64 k,.int .i64 m,.int .i64 i];have hb0:=(Below.refl w.heap.size w).alloc (Nat.le_refl _) (.cells #[.int .i64 k,.int .i64 m,.int .i64 i] 23);unfold cfgV;go_in;go_upto_region 1 with fail;refine nameW (F:=fun v=>Blk v w.heap.size 23 #[.int .i64 k,.int .i64 m,.int .i64 i]∧Below w.heap.size w v) ⟨hB0,hb0⟩ ?_;clear hB0 hb0;rintro w1 ⟨hB1,hb1⟩;obtain⟨bx,hbx⟩:∃bx,bx=w.heap.size:=⟨_,rfl⟩;rw[←hbx]at hB1⊢;have HBx:=qd hbx;have HB:=qd hB1;have HE1:=qd (hE.mod (Mod.of_below hb1 []) (by simp));have HBl:=qd hb1;obtain⟨k0,k1,k2⟩:=hB1.c3;have HCh:=qd (plan_Check k m i w1 HE1.out.errs);rw[hcf]at HCh;simp only[Bool.false_eq_true,if_false]at HCh;rw[errV_pos E (by omega)]at HCh;unfold cfgV at HCh;clear hB1 hb1 hbx hE;go_wp2_with fail;refine HCh.out.mono ?_;rintro y w2 ⟨rfl,hb2⟩;go_wp2;refine bodyPost_ret (v:= .tuple #[.pointer none,.iface 372 (.pointer (some (E 1)))]) (by simp[results,Tryz.results53,go_sem]) rfl ⟨?_,below2 HBl.out hb2⟩;rw[errV_pos E (by omega)]
theorem core_New (H:Nat→Nat)(hE:Env W0 E w)(k m i:Int)(hcf:cfgOk k m i=true)(K M I:Nat)(hkm:(1≤K∧K≤64)∧(1≤M∧M≤192)∧k=(K:Int)∧m=(M:Int)∧i=(I:Int)):Calls Tryz.prog 53 #[cfgV k m i] w fun e w'=>∃mb,e= .returned (.tuple #[coreP mb,.nilIface])∧NewAt W0 E H K M w mb w':=by
 have HKk:=qd hkm;clear hkm;have HEr:=qd hE;have hB0:=Blk.new w 23 #[.int .i64 k,.int .i64 m,.int .i64 i];have hb0:=(Below.refl w.heap.size w).alloc (Nat.le_refl _) (.cells #[.int .i64 k,.int .i64 m,.int .i64 i] 23);unfold cfgV;go_in;go_upto_region 1 with fail;refine nameW (F:=fun v=>Blk v w.heap.size 23 #[.int .i64 k,.int .i64 m,.int .i64 i]∧Below w.heap.size w v) ⟨hB0,hb0⟩ ?_;clear hB0 hb0;rintro w1 ⟨hB1,hb1⟩;obtain⟨bx,hbx⟩:∃bx,bx=w.heap.size:=⟨_,rfl⟩;rw[←hbx]at hB1⊢;have HBx:=qd hbx;have HB:=qd hB1;have HE1:=qd (hE.mod (Mod.of_below hb1 []) (by simp));have HBl:=qd hb1;obtain⟨k0,k1,k2⟩:=hB1.c3;have HCh:=qd (plan_Check k m i w1 HE1.out.errs);rw[hcf]at HCh;simp only[if_true]at HCh;unfold cfgV at HCh;have hz1:=hb1.size;have hbxl:=HB.out.lt;clear hB1 hb1 hE hbx;go_wp2_with fail;refine HCh.out.mono ?_;rintro y w2 ⟨rfl,hb2⟩;replace HB:=qB hb2 HB;replace HBl:=qd (below2 HBl.out hb2);replace HE1:=qB hb2 HE1;have hz2:=hb2.size;clear hb2 HCh k0 k1 k2;go_wp2_with fail;refine(node_New w2).mono ?_;rintro y w3 ⟨nb,tb,gb,rfl,hn1,hn2,⟨l1,l2,l3,l4,l5⟩,hb3⟩;have HN:=qd (show NdAt w3 nb [nb,tb,gb] nd0 from⟨tb,gb,hn1,hn2,rfl,l4,l5⟩);replace HB:=qB hb3 HB;replace HBl:=qd (below2 HBl.out hb3);replace HE1:=qB hb3 HE1;have hz3:=hb3.size;have l6:=hn2.ne;have hnl:=HN.out.lts;have hn1l:=hnl nb (by simp);have hn2l:=hnl tb (by simp);have hn3l:=hnl gb (by simp);clear hb3 hn1 hn2 hnl;unfold nodeP
 have HDn:=qd (show Calls Tryz.prog 85 #[.int .i64 0] w3 _ from dir_New 0 (by omega) w3);unfold dirP at HDn;go_wp2_with fail;refine HDn.out.mono ?_;rintro y w4 ⟨rfl,hd4,hb4⟩;have HD:=qd (show DirAt w4 (w3.heap.size+1) w3.heap.size 0 [0]from hd4);replace HN:=qd (HN.out.mod (Mod.of_below hb4 []) (by simp));replace HB:=qB hb4 HB;replace HBl:=qd (below2 HBl.out hb4);replace HE1:=qB hb4 HE1;have hz4:=hb4.size;have hd1l:=HD.out.lt;have hd2l:=HD.out.ltE;obtain⟨db,hdb⟩:∃db,db=w3.heap.size+1:=⟨_,rfl⟩;obtain⟨eb,heb⟩:∃eb,eb=w3.heap.size:=⟨_,rfl⟩;rw[←hdb,←heb]at HD;rw[←hdb];rw[←hdb]at hd1l;rw[←heb]at hd2l;have HDb:=qd hdb;have HEb:=qd heb;clear hb4 hd4 HDn hdb heb;have kk:=HB.out.c3;have HSn:=qd (sched_New k (by have:=HKk.out;omega) (adr0 nb db eb).val w4 HE1.out.errs);unfold schP at HSn;go_wp2_with fail;refine HSn.out.mono ?_;rintro y w5 ⟨sb,qb,rb,jb,rfl,hs5,hsl,hb5⟩;have HS:=qd hs5;replace HN:=qd (HN.out.mod (Mod.of_below hb5 []) (by simp));replace HD:=qB hb5 HD;replace HB:=qB hb5 HB;replace HBl:=qd (below2 HBl.out hb5);replace HE1:=qB hb5 HE1;have hz5:=hb5.size;have HSl:=qd hsl;clear kk hb5 hs5 HSn hsl;have kk:=HB.out.c3;go_wp2;have hrow:=World.ownsRow_lit (base:=W0.heap.size) (e:=142) (size:=1) w5 #[.pointer (some ⟨nb,0,none⟩)] 1 (by have:=HE1.out.size;omega) (by decide) rfl;have hb6:Below w5.heap.size w5 (w5.alloc (.cells #[.pointer (some ⟨nb,0,none⟩)] 142)):=(Below.refl _ _).alloc (Nat.le_refl _) _;have hm6:=Mod.of_below hb6 []
 have hsl:=HSl.out;have hd1:=HDb.out;have hd2:=HEb.out;have s1:=hsl sb (by simp);have s2:=hsl qb (by simp);have s3:=hsl rb (by simp);have s4:=hsl jb (by simp);have hslt:=HS.out.lt;have t1:=hslt sb (by simp);have t2:=hslt qb (by simp);have t3:=hslt rb (by simp);have t4:=hslt jb (by simp);have hbx9:=HBx.out
 obtain⟨F,hF⟩:=CoreF.fresh H (w:=w) (w5:=w5.alloc (.cells #[.pointer (some ⟨nb,0,none⟩)] 142)) (nb:=nb) (tb:=tb) (gb:=gb) (db:=db) (eb:=eb) (sb:=sb) (qb:=qb) (rb:=rb) (jb:=jb) (vb:=w5.heap.size) (K:=K) (M:=M) (I:=I) HEr.out HKk.out.1 HKk.out.2.1 (below2 HBl.out hb6) (HN.out.mod hm6 (by simp)) (HD.out.mod hm6 (by simp) (by simp)) (HKk.out.2.2.1▸HS.out.mod hm6 (by simp)) hrow
  (by intro q hq;simp at hq;omega) (by intro q hq;simp at hq⊢;omega) (by intro q hq;simp at hq⊢;omega) (by intro q hq;simp at hq;omega)
 have hkk:=HKk.out.2.2
 have hq:coreCells K M I db sb w5.heap.size= #[.int .i64 k,.int .i64 m,.int .i64 i,.int .i64 0,.int .i64 0,.int .i64 0,.int .i64 0,.int .i64 0,.int .i64 0,.bool false,.int .i64 0,.slice (some ⟨w5.heap.size,0,none⟩) 1 1,.pointer (some ⟨db,0,none⟩),.pointer none,.pointer (some ⟨sb,0,none⟩),.int .i64 0]:=by
  unfold coreCells;rw[hkk.1,hkk.2.1,hkk.2.2]
 rw[hq]at hF;refine bodyPost_ret (v:= .tuple #[.pointer (some ⟨w5.heap.size+1,0,none⟩),.nilIface]) (by simp[results,Tryz.results53,go_sem]) rfl ⟨w5.heap.size+1,rfl,⟨_,F, ?_,rfl,rfl,hF⟩⟩;simp
end
section
variable {α : Type} {id : Nat} {W0 w : World} {E : Nat → Addr}
def sumL {α:Type}(left:α→Nat→Nat)(a:α)(ids:List Nat):Nat:=(ids.map (left a)).sum
def LeftIs (l:Lit→Bool)(rem:List Nat):Prop:=∀x:Int,(Lit.int .i64 x).wf=true→(l (.int .i64 x)=true↔∃id∈rem,x=(id:Int))
theorem LeftIs.next {l:Lit→Bool}{rem:List Nat}(h:LeftIs l rem)(hn:rem.Nodup):LeftIs (fun z=>l z && !z.sameKey (.int .i64 (id:Int))) (rem.erase id):=fun x hx=>by
 have hk:(Lit.int .i64 x).sameKey (.int .i64 (id:Int))=decide (x=(id:Int)):=by simp[Lit.sameKey]
 show(l (.int .i64 x) && !(Lit.int .i64 x).sameKey (.int .i64 (id:Int)))=true↔_;rw[hk,Bool.and_eq_true,h x hx];constructor
 ·rintro⟨⟨j,hj,rfl⟩,h2⟩
  have h3:¬(j:Int)=(id:Int):=by simpa using h2
  exact⟨j,(List.mem_erase_of_ne (fun e=>h3 (by rw[e]))).2 hj,rfl⟩
 ·rintro⟨j,hj,rfl⟩;rw[hn.mem_erase_iff]at hj;have h3:¬(j:Int)=(id:Int):=fun e=>hj.1 (by omega);exact⟨⟨j,hj.2,rfl⟩,by simpa using h3⟩
end
end Go.Proofs.YtfbljmcjadfkoaaGreatDoor
