/- A node as it is seen from above: its entries, its job, the room it has; what a step leaves of that. No statement of the claim. -/
import Derived.Test.YtnfjjbpmhcbelaaGreatDoorCoBY
import Derived.Test.YtnfjjbpmhcbelaaGreatDoorSqM
namespace Go.Proofs.YtnfjjbpmhcbelaaGreatDoor
set_option maxHeartbeats 2000000
open Go dI
section
variable {H : Nat → Nat}
inductive Phase where
 |idle
 |nW (k:Nat)
 |iY (Ts:List aC) (next:Nat)
structure Nd where
 pfx:Nat
 au:Nat
 kind:Nat
 sl:Nat
 T:aC
 ph:Phase
def Aq:Phase→List aC
 | .iY Ts _=>Ts
 |_=> []
def Phase.busy:Phase→Bool
 | .idle=>false
 |_=>true
def Nd.len (N:Nd):Nat:=N.T.gs.length
def Nd.many (N:Nd):Nat:=if N.kind=3 then 2 else 1
def Nd.each (N:Nd):Nat:=if N.kind=2 then 2*N.len else N.len
def Nd.ents (N:Nd):List av:=dh (Aq N.ph)++aM N.T.gs
def Nd.left (N:Nd):Nat:=match N.ph with
 | .idle=>0
 | .nW k=>N.len+(N.each*N.many-k)
 | .iY _ next=>N.len-next
def Nd.groups (N:Nd):Nat:=if N.ph.busy then N.len+N.each*N.many else N.len
def mF (n d:Nat):Nat:=4*n-1+d*(3*n/8+1)
def sZ (kind n d:Nat):Nat:=if kind=1 then(if n<64 then 2*n else 192)else mF n d+1
def jQ (N:Nd):Prop:=N.kind=1∨(N.kind=2∧N.len<64)∨(N.kind=3∧8≤N.len∧N.au<5)
def lU (N:Nd):Prop:=match N.ph with
 | .idle=>N.kind=0∧load N.T≤mF N.len N.au+N.sl/8
 | .nW k=>jQ N∧k<N.each*N.many∧load N.T≤mF N.len N.au+(k+N.sl)/8∧(aM N.T.gs).length+1≤sZ N.kind N.len N.au+(k+N.sl)/8
 | .iY Ts next=>jQ N∧next≤N.len∧zG N.many N.each N.au Ts∧(∀i s e,aF N.T.gs i s= .full e→next≤i)∧loads Ts+(aM N.T.gs).length+1≤sZ N.kind N.len N.au+(N.each*N.many+next+N.sl)/8
structure mG (H:Nat→Nat)(e:av):Prop where
 hash:e.hash=H e.key
 h64:e.hash<18446744073709551616
 k64:e.key<18446744073709551616
 v64:e.val<18446744073709551616
structure dU (H:Nat→Nat)(N:Nd):Prop where
 tg:TG N.T
 deep:N.au≤5
 big:N.au=0∨8≤N.len
 pfx:N.pfx<2^N.au
 sl:N.sl≤8
 keys:(N.ents.map av.key).Nodup
 hash:∀e∈N.ents,mG H e∧dQ e.hash N.au=N.pfx
 few:N.ents.length≤192
 ph:lU N
theorem dU.pw {N:Nd}(h:dU H N):Pw N.len:=h.tg.ok.pow
theorem iZ {N:Nd}(h:Pw N.len)(hk:jQ N):Pw N.each∧(N.many=1∨N.many=2)∧N.each*N.many≤2*N.len∧N.len≤N.each*N.many∧
  (N.kind=1∧N.each=N.len∧N.many=1∨N.kind=2∧N.each=2*N.len∧N.many=1∨N.kind=3∧N.each=N.len∧N.many=2):=by
 unfold Nd.each Nd.many
 rcases hk with h1|⟨h1,h2⟩|⟨h1,h2,h3⟩<;>rw[h1]<;>simp
 ·exact⟨h,by omega⟩
 ·refine⟨?_,by omega⟩;unfold Pw at h⊢;omega
 ·exact⟨h,by omega⟩
section
variable {n d k s L l kind : Nat}
theorem Oh (hn:Pw n)(hd:d≤5)(hb:d=0∨8≤n)(hk:k≤2*n)(h:L≤mF n d+k/8):L+1≤7*n:=by
 unfold mF at h;rcases hb with rfl|hb
 ·rcases hn with rfl|rfl|rfl|rfl|rfl|rfl|rfl<;>omega
 ·rcases hn with rfl|rfl|rfl|rfl|rfl|rfl|rfl<;>omega
theorem Iz {N:Nd}(hn:Pw N.len)(hd:N.au≤5)(hb:N.au=0∨8≤N.len)(hk:jQ N)(hs:s≤3*N.len+8):sZ N.kind N.len N.au+s/8≤7*N.each:=by
 unfold Nd.each;revert hk hb hn hd hs;unfold jQ;generalize N.len=n;generalize N.au=d;intro hn hd hb hk hs
 rcases hk with h1|⟨h1,h2⟩|⟨h1,h2,h3⟩<;>rw[h1]<;>unfold sZ mF<;>simp
 ·rcases hn with rfl|rfl|rfl|rfl|rfl|rfl|rfl<;>simp<;>omega
 ·rcases hb with rfl|hb<;>rcases hn with rfl|rfl|rfl|rfl|rfl|rfl|rfl<;>simp at* <;>omega
 ·rcases hn with rfl|rfl|rfl|rfl|rfl|rfl|rfl<;>simp at* <;>omega
theorem room_end {N:Nd}(hn:Pw N.len)(hd:N.au≤5)(hb:N.au=0∨8≤N.len)(hk:jQ N)(hs:s≤8)(h:L+1≤sZ N.kind N.len N.au+(N.each*N.many+N.len+s)/8):
  L≤mF N.each (if N.many=2 then N.au+1 else N.au):=by
 revert h;unfold Nd.each Nd.many;revert hk hb hn hd;unfold jQ;generalize N.len=n;generalize N.au=d;intro hn hd hb hk h
 rcases hk with h1|⟨h1,h2⟩|⟨h1,h2,h3⟩<;>rw[h1]at h⊢<;>unfold sZ mF at* <;>simp at h⊢
 ·rcases hn with rfl|rfl|rfl|rfl|rfl|rfl|rfl<;>simp at h⊢<;>omega
 ·rcases hb with rfl|hb<;>rcases hn with rfl|rfl|rfl|rfl|rfl|rfl|rfl<;>simp at* <;>omega
 ·rcases hn with rfl|rfl|rfl|rfl|rfl|rfl|rfl<;>simp at* <;>omega
end
def zH:bL:=⟨⟨0,0,0⟩,⟨0,0,0⟩⟩
def Nd.step (N:Nd):Nd:=match N.ph with
 | .idle=>N
 | .nW k=>{N with sl:=N.sl-1,ph:=if k+1=N.each*N.many then .iY (List.replicate N.many (dR N.each N.each)) 0 else .nW (k+1)}
 | .iY Ts next=>{N with sl:=N.sl-1,T:=takeN N.T next 8,ph:= .iY (eD N.many N.au (zH,Ts) (bT (N.T.gs.getD next []))).2 (next+1)}
structure Like (N N':Nd):Prop where
 pfx:N'.pfx=N.pfx
 au:N'.au=N.au
 kind:N'.kind=N.kind
 len:N'.len=N.len
 busy:N'.ph.busy=N.ph.busy
theorem Like.each {N N':Nd}(h:Like N N'):N'.each=N.each:=by unfold Nd.each;rw[h.kind,h.len]
theorem Like.many {N N':Nd}(h:Like N N'):N'.many=N.many:=by unfold Nd.many;rw[h.kind]
theorem Like.groups {N N':Nd}(h:Like N N'):N'.groups=N.groups:=by unfold Nd.groups;rw[h.busy,h.each,h.many,h.len]
theorem Like.kindOk {N N':Nd}(h:Like N N')(hk:jQ N):jQ N':=by unfold jQ at*;rw[h.kind,h.len,h.au];exact hk
theorem Like.refl (N:Nd):Like N N:=⟨rfl,rfl,rfl,rfl,rfl⟩
theorem Like.trans {N N' N2:Nd}(h:Like N N')(k:Like N' N2):Like N N2:=⟨k.pfx.trans h.pfx,k.au.trans h.au,k.kind.trans h.kind,k.len.trans h.len,k.busy.trans h.busy⟩
theorem rW (N:Nd):Like N N.step:=by
 unfold Nd.step
 cases h:N.ph with
 |idle=>exact Like.refl N
 |nW k=>exact⟨rfl,rfl,rfl,rfl,by simp only;rw[h];split<;>rfl⟩
 |iY Ts next=>exact⟨rfl,rfl,rfl,sQ _ _ _,by rw[h];rfl⟩
theorem dU.fits {N:Nd}(h:dU H N){Ts:List aC}{next:Nat}(hp:N.ph= .iY Ts next)(hn:next<N.len)(x:bL):
  Fits N.many N.au Ts (bT (N.T.gs.getD next []))∧zG N.many N.each N.au (eD N.many N.au (x,Ts) (bT (N.T.gs.getD next []))).2∧(dh (eD N.many N.au (x,Ts) (bT (N.T.gs.getD next []))).2).Perm (bT (N.T.gs.getD next [])++dh Ts)∧
   loads (eD N.many N.au (x,Ts) (bT (N.T.gs.getD next []))).2≤loads Ts+(bT (N.T.gs.getD next [])).length∧∃c,(eD N.many N.au (x,Ts) (bT (N.T.gs.getD next []))).1=x.add cV c:=by
 have dx:=h.ph;unfold lU at dx;rw[hp]at dx;obtain⟨h1,h2,h3,h4,h5⟩:=dx;obtain⟨k1,k2,k3,k4,_⟩:=iZ h.pw h1;obtain⟨t1,t2,t3⟩:=BA h.tg hn;have hsl:=h.sl;have hB:=Iz h.pw h.deep h.big h1 (s:=N.each*N.many+next+N.sl) (by omega);have hlen:=t3.length_eq;rw[List.length_append]at hlen
 have adE:N.ents=dh Ts++aM N.T.gs:=by unfold Nd.ents;rw[hp];rfl
 have hpe:N.ents.Perm ((bT (N.T.gs.getD next [])++dh Ts)++aM (takeN N.T next 8).gs):=by
  rw[adE];refine(t3.append_left _).trans ?_;rw[←List.append_assoc];exact List.perm_append_comm.append_right _
 refine moves k2 hB _ Ts x h3 ?_ (fun e he=> ?_) (by omega)
 ·have:=(hpe.map av.key).nodup_iff.1 h.keys;rw[List.map_append]at this;exact(List.nodup_append.1 this).1
 ·exact(h.hash e (hpe.mem_iff.2 (List.mem_append_left _ (List.mem_append_left _ he)))).1.h64
theorem KV {N:Nd}(h:dU H N)(hl:1≤N.left):N.step.ents.Perm N.ents:=by
 cases hp:N.ph with
 |idle=>unfold Nd.left at hl;rw[hp]at hl;simp at hl
 |nW k=>
  have dx:=h.ph;unfold lU at dx;rw[hp]at dx;unfold Nd.step Nd.ents;rw[hp];simp only;split
  ·rw[show Aq (Phase.iY (List.replicate N.many (dR N.each N.each)) 0)=List.replicate N.many (dR N.each N.each)from rfl,(KT (m:=N.many) (d:=N.au) (iZ h.pw dx.1).1).2.1];exact .refl _
  ·exact .refl _
 |iY Ts next=>
  have hn:next<N.len:=by unfold Nd.left at hl;rw[hp]at hl;simp only at hl;omega
  obtain⟨_,_,h3,_⟩:=h.fits hp hn zH;obtain⟨_,_,t3⟩:=BA h.tg hn;unfold Nd.step Nd.ents;rw[hp];show(dh (eD N.many N.au (zH,Ts) (bT (N.T.gs.getD next []))).2++aM (takeN N.T next 8).gs).Perm (dh Ts++aM N.T.gs);refine(h3.append_right _).trans (List.Perm.trans ?_ (t3.symm.append_left _));rw[←List.append_assoc];exact List.perm_append_comm.append_right _
theorem VR {N:Nd}(h:dU H N)(hl:1≤N.left):N.step.left+1=N.left:=by
 have hL:=rW N;unfold Nd.left at hl⊢;rw[hL.len,hL.each,hL.many]
 cases hp:N.ph with
 |idle=>rw[hp]at hl;simp at hl
 |nW k=>
  have dx:=h.ph;unfold lU at dx;rw[hp]at dx;obtain⟨_,hk,_⟩:=dx;by_cases h1:k+1=N.each*N.many
  ·have hP:N.step.ph= .iY (List.replicate N.many (dR N.each N.each)) 0:=by unfold Nd.step;rw[hp];simp only;rw[if_pos h1]
   rw[hP];show N.len-0+1=N.len+(N.each*N.many-k);omega
  ·have hP:N.step.ph= .nW (k+1):=by unfold Nd.step;rw[hp];simp only;rw[if_neg h1]
   rw[hP];show N.len+(N.each*N.many-(k+1))+1=N.len+(N.each*N.many-k);omega
 |iY Ts next=>
  rw[hp]at hl;unfold Nd.step;rw[hp];simp only at hl⊢;omega
theorem step_ok {N:Nd}(h:dU H N)(hl:1≤N.left):dU H N.step:=by
 have hL:=rW N;have hE:=KV h hl
 have hsl:N.step.sl=N.sl-1:=by
  unfold Nd.step
  cases hp:N.ph with
  |idle=>unfold Nd.left at hl;rw[hp]at hl;simp at hl
  |_=>rfl
 refine⟨?_,by rw[hL.au];exact h.deep,by rw[hL.au,hL.len];exact h.big,by rw[hL.au,hL.pfx];exact h.pfx,by rw[hsl];have:=h.sl;omega,(hE.map av.key).nodup_iff.2 h.keys,fun e he=>by rw[hL.au,hL.pfx];exact h.hash e (hE.mem_iff.1 he),by rw[hE.length_eq];exact h.few, ?_⟩
 ·cases hp:N.ph with
  |idle=>unfold Nd.left at hl;rw[hp]at hl;simp at hl
  |nW k=>
   have hT:N.step.T=N.T:=by unfold Nd.step;rw[hp]
   rw[hT];exact h.tg
  |iY Ts next=>
   have hn:next<N.len:=by unfold Nd.left at hl;rw[hp]at hl;simp only at hl;omega
   have hT:N.step.T=takeN N.T next 8:=by unfold Nd.step;rw[hp]
   rw[hT];exact(BA h.tg hn).1
 ·have dx:=h.ph;have hs:=h.sl;unfold lU at dx⊢;rw[hL.len,hL.each,hL.many,hL.kind,hL.au,hsl]
  cases hp:N.ph with
  |idle=>unfold Nd.left at hl;rw[hp]at hl;simp at hl
  |nW k=>
   rw[hp]at dx;obtain⟨h1,h2,h3,h4⟩:=dx
   have hT:N.step.T=N.T:=by unfold Nd.step;rw[hp]
   rw[hT];by_cases hk:k+1=N.each*N.many
   ·have hP:N.step.ph= .iY (List.replicate N.many (dR N.each N.each)) 0:=by unfold Nd.step;rw[hp];simp only;rw[if_pos hk]
    rw[hP];obtain⟨b1,b2,b3⟩:=KT (m:=N.many) (n:=N.each) (d:=N.au) (iZ h.pw h1).1;refine⟨hL.kindOk h1,Nat.zero_le _,b1,fun _ _ _ _=>Nat.zero_le _, ?_⟩;rw[b3,←hk];omega
   ·have hP:N.step.ph= .nW (k+1):=by unfold Nd.step;rw[hp];simp only;rw[if_neg hk]
    rw[hP];exact⟨hL.kindOk h1,by omega,by omega,by omega⟩
  |iY Ts next=>
   rw[hp]at dx
   have hn:next<N.len:=by unfold Nd.left at hl;rw[hp]at hl;simp only at hl;omega
   obtain⟨h1,h2,h3,h4,h5⟩:=dx;obtain⟨_,f2,_,f4,_⟩:=h.fits hp hn zH;obtain⟨_,t2,t3⟩:=BA h.tg hn
   have hT:N.step.T=takeN N.T next 8:=by unfold Nd.step;rw[hp]
   have hP:N.step.ph= .iY (eD N.many N.au (zH,Ts) (bT (N.T.gs.getD next []))).2 (next+1):=by unfold Nd.step;rw[hp]
   rw[hT,hP];have hlen:=t3.length_eq;rw[List.length_append]at hlen;refine⟨hL.kindOk h1,by omega,f2,fun i s e he=> ?_,by omega⟩;obtain⟨a,b⟩:=(t2 i s e).1 he;have:=h4 i s e a;omega
end
section
variable {H : Nat → Nat} {add del l : List av} {X Y : aC} {Ts : List aC} {gl key next : Nat} {e : av}
def Nd.qx (N:Nd)(X:aC)(s:Nat):Nd:={N with T:=X,sl:=s}
def Nd.Oi (N:Nd)(Ts:List aC)(next j:Nat)(X:aC)(s:Nat):Nd:={N with ph:= .iY (Ts.set j X) next,sl:=s}
structure Wr (H:Nat→Nat)(del add:List av)(N N':Nd):Prop where
 like:Like N N'
 left:N'.left=N.left
 Iy:uo del add N.ents N'.ents
 ok:dU H N'
 sl:add.length≤del.length→N'.sl=N.sl
 ld:N.ph= .idle→load N'.T≤load N.T+(add.length-del.length)
structure uV (H:Nat→Nat)(N:Nd)(del add:List av):Prop where
 hash:∀e∈add,mG H e∧dQ e.hash N.au=N.pfx
 keys:∀rest,N.ents.Perm (del++rest)→((add++rest).map av.key).Nodup
 few:N.ents.length+add.length≤192+del.length
 one:add.length≤del.length∨add.length=1∧del=[]∧N.sl=0
def mh (del add:List av)(s:Nat):Nat:=if del.length<add.length then 8 else s
theorem Wr.of {N N':Nd}(h:dU H N)(ha:uV H N del add)(hL:Like N N')(hl:N'.left=N.left)(hc:uo del add N.ents N'.ents)(ht:TG N'.T)(hs:N'.sl=mh del add N.sl)(hld:N.ph= .idle→load N'.T≤load N.T+(add.length-del.length))(hp:lU N'):Wr H del add N N':=by
 refine⟨hL,hl,hc,⟨ht,by rw[hL.au];exact h.deep,by rw[hL.au,hL.len];exact h.big,by rw[hL.au,hL.pfx];exact h.pfx, ?_, ?_,fun e he=> ?_, ?_,hp⟩,fun hh=>by rw[hs];unfold mh;rw[if_neg (by omega)],hld⟩
 ·rw[hs];unfold mh;have:=h.sl;split<;>omega
 ·obtain⟨r,h1,h2⟩:=hc;exact(h2.map av.key).nodup_iff.2 (ha.keys r h1)
 ·rw[hL.au,hL.pfx];rcases hc.mem he with h1|h1
  ·exact ha.hash e h1
  ·exact h.hash e h1
 ·have:=hc.len;have:=ha.few;omega
theorem Zb {N:Nd}(h:dU H N)(ha:uV H N del add)(hc:Bz del add N.T X)(hm:∀Ts next,N.ph= .iY Ts next→del≠[]∧add.length≤del.length):Wr H del add N (N.qx X (mh del add N.sl)):=by
 have hL:Like N (N.qx X (mh del add N.sl)):=⟨rfl,rfl,rfl,hc.len,rfl⟩;have hlen:=hc.Iy.len;have hld:=hc.load_;have hs:=h.sl;have h1:=ha.one;refine Wr.of h ha hL ?_ ?_ hc.tg rfl (fun _=>hc.load_) ?_
 ·unfold Nd.left;rw[hL.len,hL.each,hL.many];rfl
 ·have:=hc.Iy.wrap (dh (Aq N.ph)) [];show uo del add (dh (Aq N.ph)++aM N.T.gs) (dh (Aq N.ph)++aM X.gs);simpa using this
 ·have dx:=h.ph;unfold lU at dx⊢;rw[hL.len,hL.each,hL.many]
  show match N.ph with
   | .idle=>N.kind=0∧load X≤mF N.len N.au+mh del add N.sl/8
   | .nW k=>jQ (N.qx X (mh del add N.sl))∧k<N.each*N.many∧load X≤mF N.len N.au+(k+mh del add N.sl)/8∧(aM X.gs).length+1≤sZ N.kind N.len N.au+(k+mh del add N.sl)/8
   | .iY Ts next=>jQ (N.qx X (mh del add N.sl))∧next≤N.len∧zG N.many N.each N.au Ts∧(∀i s e,aF X.gs i s= .full e→next≤i)∧loads Ts+(aM X.gs).length+1≤sZ N.kind N.len N.au+(N.each*N.many+next+mh del add N.sl)/8
  have hsk:(add.length≤del.length∧mh del add N.sl=N.sl)∨(add.length=1∧del.length=0∧N.sl=0∧mh del add N.sl=8):=by
   rcases h1 with h2|⟨h2,h3,h4⟩
   ·exact .inl ⟨h2,by unfold mh;rw[if_neg (by omega)]⟩
   ·exact .inr ⟨h2,by rw[h3];rfl,h4,by unfold mh;rw[if_pos (by rw[h3,h2];simp)]⟩
  cases hp:N.ph with
  |idle=>
   rw[hp]at dx;exact⟨dx.1,by have:=dx.2;omega⟩
  |nW k=>
   rw[hp]at dx;obtain⟨g1,g2,g3,g4⟩:=dx;exact⟨hL.kindOk g1,g2,by omega,by omega⟩
  |iY Ts next=>
   rw[hp]at dx;obtain⟨g1,g2,g3,g4,g5⟩:=dx
   obtain⟨m1,m2⟩:=hm Ts next hp
   refine⟨hL.kindOk g1,g2,g3,fun i s e he=> ?_,by omega⟩;rcases hc.at_ i s e he with h2|⟨e0,h2⟩
   ·exact absurd h2 m1
   ·exact g4 i s e0 h2
theorem aeh {N:Nd}{j:Nat}(h:dU H N)(hp:N.ph= .iY Ts next)(hj:Ts[j]?=some Y)(ha:uV H N del add)(hc:Bz del add Y X)(hsd:∀e∈add,dB N.many N.au e.hash=j):Wr H del add N (N.Oi Ts next j X (mh del add N.sl)):=by
 have hL:Like N (N.Oi Ts next j X (mh del add N.sl)):=⟨rfl,rfl,rfl,rfl,by rw[hp];rfl⟩;have hlen:=hc.Iy.len;have hld:=hc.load_;have hs:=h.sl;have h1:=ha.one;have hls:=KS hj X;refine Wr.of h ha hL ?_ ?_ h.tg rfl (fun hh=>by rw[hp]at hh;cases hh) ?_
 ·unfold Nd.left;rw[hp];rfl
 ·obtain⟨A,B,hA,hB⟩:=Dy hj;have:=hc.Iy.wrap A (B++aM N.T.gs);unfold Nd.ents;rw[hp];show uo del add (dh Ts++aM N.T.gs) (dh (Ts.set j X)++aM N.T.gs);rw[hA,hB];simpa using this
 ·have dx:=h.ph;unfold lU at dx;rw[hp]at dx;obtain⟨g1,g2,g3,g4,g5⟩:=dx
  show jQ _∧next≤N.len∧zG N.many N.each N.au (Ts.set j X)∧(∀i s e,aF N.T.gs i s= .full e→next≤i)∧loads (Ts.set j X)+(aM N.T.gs).length+1≤sZ N.kind N.len N.au+(N.each*N.many+next+mh del add N.sl)/8
  refine⟨hL.kindOk g1,g2,g3.ak hj hc hsd,g4, ?_⟩
  have hsk:(add.length≤del.length∧mh del add N.sl=N.sl)∨(add.length=1∧del.length=0∧N.sl=0∧mh del add N.sl=8):=by
   rcases h1 with h2|⟨h2,h3,h4⟩
   ·exact .inl ⟨h2,by unfold mh;rw[if_neg (by omega)]⟩
   ·exact .inr ⟨h2,by rw[h3];rfl,h4,by unfold mh;rw[if_pos (by rw[h3,h2];simp)]⟩
  omega
theorem Q8 {N:Nd}(h:dU H N)(he:mG H e)(ht:dQ e.hash N.au=N.pfx)(hk:∀x∈N.ents,x.key≠e.key)(hf:N.ents.length+1≤192)(hs:N.sl=0):uV H N [] [e]:=
 ⟨fun x hx=>by simp at hx;subst hx;exact⟨he,ht⟩,fun r hr=>by
  have h1:=(hr.map av.key).nodup_iff.1 h.keys;rw[List.nil_append]at h1 hr;rw[List.singleton_append,List.map_cons,List.nodup_cons]
  exact⟨fun hh=>by obtain⟨x,h2,h3⟩:=List.mem_map.1 hh;exact hk x (hr.mem_iff.2 h2) h3,h1⟩,by simpa using hf,.inr ⟨rfl,rfl,hs⟩⟩
theorem Zc {N:Nd}(h:dU H N):uV H N [e] []:=
 ⟨fun x hx=>by simp at hx,fun r hr=>by
  have h1:=(hr.map av.key).nodup_iff.1 h.keys;rw[List.singleton_append,List.map_cons,List.nodup_cons]at h1
  exact h1.2,by have:=h.few;simp;omega,.inl (by simp)⟩
theorem KW {N:Nd}{v:Nat}(h:dU H N)(he:e∈N.ents)(hv:v<18446744073709551616):uV H N [e] [{e with val:=v}]:=
 ⟨fun x hx=>by simp at hx;subst hx;obtain⟨h1,h2⟩:=h.hash e he;exact⟨⟨h1.hash,h1.h64,h1.k64,hv⟩,h2⟩,fun r hr=>by
  have h1:=(hr.map av.key).nodup_iff.1 h.keys
  simpa using h1,by have:=h.few;simp;omega,.inl (by simp)⟩
def Nd.start (N:Nd)(kind:Nat):Nd:={N with kind:=kind,sl:=8,ph:= .nW 0}
theorem Oj {N:Nd}{kind:Nat}(h:dU H N)(hi:N.ph= .idle)(hgl:gl≤5)(hk:jo N.T.live N.T.bW N.len N.au gl=kind)(h0:kind≠0):dU H (N.start kind)∧(N.start kind).ents=N.ents:=by
 have hE:(N.start kind).ents=N.ents:=by unfold Nd.ents Nd.start;rw[hi];rfl
 have dx:=h.ph;unfold lU at dx;rw[hi]at dx;have hs:=h.sl;have hl:=h.tg.ok.live
 have hK:jQ (N.start kind)∧(kind=1→2*N.len<(aM N.T.gs).length→N.len=64):=by
  unfold jo at hk;split at hk
  ·exact absurd hk.symm h0
  ·split at hk
   ·next h1=>subst hk;exact⟨.inl rfl,fun _ h2=>by omega⟩
   ·split at hk
    ·next h1=>subst hk;exact⟨.inr (.inr ⟨rfl,h1.1,by show N.au<5;omega⟩),fun hh=>by omega⟩
    ·split at hk
     ·next h1=>subst hk;exact⟨.inr (.inl ⟨rfl,h1⟩),fun hh=>by omega⟩
     ·next h1=>subst hk;exact⟨.inl rfl,fun _ _=>by have:=h.pw.le;omega⟩
 have hle:(aM N.T.gs).length≤load N.T:=by unfold load;omega
 have Ol:=h.few
 have hE2:N.ents.length=(aM N.T.gs).length:=by unfold Nd.ents;rw[hi];simp[Aq,dh]
 have hkE:=iZ (N:=N.start kind) h.pw hK.1;refine⟨⟨h.tg,h.deep,h.big,h.pfx,Nat.le_refl 8,by rw[hE];exact h.keys,by rw[hE];exact h.hash,by rw[hE];exact h.few, ?_⟩,hE⟩;show jQ (N.start kind)∧0<(N.start kind).each*(N.start kind).many∧load N.T≤mF N.len N.au+(0+8)/8∧(aM N.T.gs).length+1≤sZ kind N.len N.au+(0+8)/8;have hpos:=h.pw.pos;have hlen:(N.start kind).len=N.len:=rfl;refine⟨hK.1,by omega,by omega, ?_⟩;unfold sZ;by_cases h1:kind=1
 ·rw[if_pos h1];have:=hK.2 h1;have h64:=h.pw.le;by_cases h2:N.len<64
  ·rw[if_pos h2];omega
  ·rw[if_neg h2];omega
 ·rw[if_neg h1];omega
theorem abg {N:Nd}(h:dU H N)(hi:N.ph= .idle)(hk:jo N.T.live N.T.bW N.len N.au gl=0):dU H {N with sl:=0}:=by
 have dx:=h.ph;unfold lU at dx;rw[hi]at dx;have hl:=h.tg.Te
 have hn:mK N.T.live N.T.bW N.len=false:=by
  unfold jo at hk;split at hk
  ·assumption
  ·split at hk
   ·cases hk
   ·split at hk
    ·cases hk
    ·split at hk<;>cases hk
 unfold mK at hn;simp only[Bool.or_eq_false_iff,decide_eq_false_iff_not]at hn;refine⟨h.tg,h.deep,h.big,h.pfx,Nat.zero_le _,h.keys,h.hash,h.few, ?_⟩;unfold lU
 show match N.ph with
  | .idle=>N.kind=0∧load N.T≤mF N.len N.au+0/8
  | .nW k=>_
  | .iY Ts next=>_
 rw[hi];refine⟨dx.1, ?_⟩;unfold mF;have:=h.pw.pos;omega
theorem ended {N:Nd}(h:dU H N)(hb:N.ph.busy=true)(hl:N.left=0):∃Ts,N.ph= .iY Ts N.len∧aM N.T.gs=[]:=by
 have dx:=h.ph;unfold lU at dx;have hpos:=h.pw.pos;unfold Nd.left at hl
 cases hp:N.ph with
 |idle=>rw[hp]at hb;cases hb
 |nW k=>rw[hp]at hl;simp only at hl;omega
 |iY Ts next=>
  rw[hp]at hl dx;simp only at hl;obtain⟨h1,h2,h3,h4,h5⟩:=dx
  obtain rfl:next=N.len:=by omega
  refine⟨Ts,rfl,List.eq_nil_iff_forall_not_mem.2 fun e he=> ?_⟩;obtain⟨i,s,hs⟩:=rG.1 he;have:=h4 i s e hs;have:=(jY (gs:=N.T.gs) (i:=i) (s:=s) (by rw[hs];exact fun h=>by cases h)).1;unfold Nd.len at*;omega
theorem Zd {h d:Nat}(hd:d≤5):dQ h (d+1)=2*dQ h d+uQ h d:=by
 unfold dQ uQ
 have h1:64-(d+1)=63-d:=by omega
 have h2:(2:Nat)^(64-d)=2^(63-d)*2:=by rw[←Nat.pow_succ];congr 1;omega
 rw[h1,h2,←Nat.div_div_eq_div_mul];omega
theorem abh {N:Nd}(h:dU H N)(hp:N.ph= .iY [X] N.len)(hT:aM N.T.gs=[]):dU H ⟨N.pfx,N.au,0,0,X,.idle⟩∧(Nd.mk N.pfx N.au 0 0 X .idle).ents=N.ents∧X.gs.length=N.each∧N.many=1:=by
 have dx:=h.ph;unfold lU at dx;rw[hp]at dx;obtain⟨h1,h2,h3,h4,h5⟩:=dx;obtain⟨k1,k2,k3,k4,k5⟩:=iZ h.pw h1
 have hm:N.many=1:=by have:=h3.len;simpa using this.symm
 obtain⟨x1,x2⟩:=h3.tg 0 X rfl
 have hE:(Nd.mk N.pfx N.au 0 0 X .idle).ents=N.ents:=by unfold Nd.ents;rw[hp,hT];simp[Aq,dh]
 have hr:=room_end (L:=load X) h.pw h.deep h.big h1 h.sl (by rw[hT]at h5;simpa[loads]using h5);rw[hm,if_neg (by omega)]at hr;refine⟨⟨x1,h.deep, ?_,h.pfx,Nat.zero_le _,by rw[hE];exact h.keys,by rw[hE];exact h.hash,by rw[hE];exact h.few,rfl, ?_⟩,hE,x2,hm⟩
 ·rcases h.big with hb|hb
  ·exact .inl hb
  ·right;show 8≤X.gs.length;rw[x2,←Nat.mul_one N.each,←hm];omega
 ·show load X≤mF X.gs.length N.au+0/8;rw[x2];omega
theorem abj {N:Nd}(h:dU H N)(hp:N.ph= .iY [X,Y] N.len)(hT:aM N.T.gs=[]):dU H ⟨2*N.pfx,N.au+1,0,0,X,.idle⟩∧dU H ⟨2*N.pfx+1,N.au+1,0,0,Y,.idle⟩∧
  (Nd.mk (2*N.pfx) (N.au+1) 0 0 X .idle).ents++(Nd.mk (2*N.pfx+1) (N.au+1) 0 0 Y .idle).ents=N.ents∧X.gs.length=N.each∧Y.gs.length=N.each∧N.many=2∧N.au<5:=by
 have dx:=h.ph;unfold lU at dx;rw[hp]at dx;obtain⟨h1,h2,h3,h4,h5⟩:=dx;obtain⟨k1,k2,k3,k4,k5⟩:=iZ h.pw h1
 have hm:N.many=2:=by have:=h3.len;simpa using this.symm
 have hk3:N.kind=3∧N.each=N.len:=by omega
 have hd5:8≤N.len∧N.au<5:=by rcases h1 with h6|h6|h6<;>omega
 obtain⟨x1,x2⟩:=h3.tg 0 X rfl;obtain⟨y1,y2⟩:=h3.tg 1 Y rfl
 have hE:(Nd.mk (2*N.pfx) (N.au+1) 0 0 X .idle).ents++(Nd.mk (2*N.pfx+1) (N.au+1) 0 0 Y .idle).ents=N.ents:=by unfold Nd.ents;rw[hp,hT];simp[Aq,dh]
 have hl:loads [X,Y]=load X+load Y:=by simp[loads]
 rw[hT,hl,List.length_nil]at h5;have hr1:=room_end (L:=load X) h.pw h.deep h.big h1 h.sl (by omega);have hr2:=room_end (L:=load Y) h.pw h.deep h.big h1 h.sl (by omega);rw[if_pos hm]at hr1 hr2;have hkeys:=h.keys;rw[←hE,List.map_append]at hkeys;have hn:=List.nodup_append.1 hkeys;have Ol:=h.few;rw[←hE,List.length_append]at Ol;have hpf:=h.pfx;have hpw:2^(N.au+1)=2^N.au*2:=Nat.pow_succ ..
 have hside:∀(j:Nat) (Z:aC) (e:av),[X,Y][j]?=some Z→e∈aM Z.gs→mG H e∧dQ e.hash (N.au+1)=2*N.pfx+j:=fun j Z e hZ he=>by
  have h6:=h3.side j Z e hZ he;obtain⟨h7,h8⟩:=h.hash e (by unfold Nd.ents;rw[hp];exact List.mem_append_left _ (nJ.2 ⟨j,Z,hZ,he⟩));refine⟨h7, ?_⟩;rw[Zd (by omega),h8];unfold dB at h6;rw[if_neg (by omega)]at h6;omega
 refine⟨⟨x1,by show N.au+1≤5;omega,.inr (by show 8≤X.gs.length;omega),by show 2*N.pfx<2^(N.au+1);omega,Nat.zero_le _,hn.1,fun e he=>hside 0 X e rfl (by simpa[Nd.ents,Aq,dh]using he),by omega,rfl,by show load X≤mF X.gs.length (N.au+1)+0/8;rw[x2];omega⟩,
  ⟨y1,by show N.au+1≤5;omega,.inr (by show 8≤Y.gs.length;omega),by show 2*N.pfx+1<2^(N.au+1);omega,Nat.zero_le _,hn.2.1,fun e he=>hside 1 Y e rfl (by simpa[Nd.ents,Aq,dh]using he),by omega,rfl,by show load Y≤mF Y.gs.length (N.au+1)+0/8;rw[y2];omega⟩,hE,x2,y2,hm,hd5.2⟩
theorem VT {N:Nd}(h:dU H N)(hp:N.ph= .iY Ts next):∃Tx,Ts[dB N.many N.au (H key)]?=some Tx∧
  ((∃e∈N.ents,e.key=key∧e.hash=H key∧((e∈aM Tx.gs∧∃i s,(aJ Tx.gs key (H key)).1=some (i,s)∧aF Tx.gs i s= .full e)∨((aJ Tx.gs key (H key)).1=none∧∃i s,(aJ N.T.gs key (H key)).1=some (i,s)∧aF N.T.gs i s= .full e)))∨
   ((∀e∈N.ents,e.key≠key)∧(aJ Tx.gs key (H key)).1=none∧(aJ N.T.gs key (H key)).1=none)):=by
 have dx:=h.ph;unfold lU at dx;rw[hp]at dx;obtain⟨h1,h2,h3,h4,h5⟩:=dx;obtain⟨k1,k2,k3,k4,k5⟩:=iZ h.pw h1;obtain⟨Tx,hT⟩:∃Tx,Ts[dB N.many N.au (H key)]?=some Tx:=⟨_,List.getElem?_eq_getElem (by rw[h3.len];exact Q7 k2)⟩
 have hE:N.ents=dh Ts++aM N.T.gs:=by unfold Nd.ents;rw[hp];rfl
 refine⟨Tx,hT, ?_⟩;have hnk:=h.keys;rw[hE,List.map_append]at hnk;by_cases hex:∃e∈N.ents,e.key=key
 ·obtain⟨e,he,hk⟩:=hex;have hh:=(h.hash e he).1.hash;rw[hk]at hh;refine .inl ⟨e,he,hk,hh, ?_⟩;rw[hE]at he;rcases List.mem_append.1 he with he|he
  ·obtain⟨j,T',hj,heT⟩:=nJ.1 he;have hs:=h3.side j T' e hj heT;rw[hh]at hs;rw[hs]at hT;rw[hT]at hj;cases hj;obtain⟨i,s,a,b⟩:=JB (h3.tg j Tx hT).1 heT;rw[hk,hh]at a;exact .inl ⟨heT,i,s,a,b⟩
  ·obtain⟨i,s,a,b⟩:=JB h.tg he;rw[hk,hh]at a;refine .inr ⟨rH fun x hx hxk=> ?_,i,s,a,b⟩;exact(List.nodup_append.1 hnk).2.2 x.key (List.mem_map_of_mem (nJ.2 ⟨_,_,hT,hx⟩)) e.key (List.mem_map_of_mem he) (hxk.trans hk.symm)
 ·have hne:∀e∈N.ents,e.key≠key:=fun e he hk=>hex ⟨e,he,hk⟩;exact .inr ⟨hne,rH fun x hx=>hne x (by rw[hE];exact List.mem_append_left _ (nJ.2 ⟨_,_,hT,hx⟩)),rH fun x hx=>hne x (by rw[hE];exact List.mem_append_right _ hx)⟩
theorem KX {N:Nd}(h:dU H N)(hp:Aq N.ph=[]):(∃e∈N.ents,e.key=key∧e.hash=H key∧∃i s,(aJ N.T.gs key (H key)).1=some (i,s)∧aF N.T.gs i s= .full e)∨((∀e∈N.ents,e.key≠key)∧(aJ N.T.gs key (H key)).1=none):=by
 have hE:N.ents=aM N.T.gs:=by unfold Nd.ents;rw[hp];rfl
 by_cases hex:∃e∈N.ents,e.key=key
 ·obtain⟨e,he,hk⟩:=hex;have hh:=(h.hash e he).1.hash;rw[hk]at hh;obtain⟨i,s,a,b⟩:=JB h.tg (hE▸he);rw[hk,hh]at a;exact .inl ⟨e,he,hk,hh,i,s,a,b⟩
 ·have hne:∀e∈N.ents,e.key≠key:=fun e he hk=>hex ⟨e,he,hk⟩;exact .inr ⟨hne,rH fun x hx=>hne x (by rw[hE];exact hx)⟩
def look (l:List av)(key:Nat):Option av:=l.find? fun e=>e.key==key
theorem jc (hn:(l.map av.key).Nodup)(he:e∈l):look l e.key=some e:=by
 unfold look
 cases hf:l.find? (fun x=>x.key==e.key)with
 |none=>exact absurd (List.find?_eq_none.1 hf e he) (by simp)
 |some x=>
  have h1:=List.mem_of_find?_eq_some hf;have h2:=List.find?_some hf;simp at h2;congr 1;obtain⟨i,hi,rfl⟩:=List.getElem_of_mem h1;obtain⟨j,hj,rfl⟩:=List.getElem_of_mem he
  have h3:(l.map av.key)[i]'(by simpa using hi)=(l.map av.key)[j]'(by simpa using hj):=by simpa using h2
  have h4:=(List.getElem_inj hn).1 h3;subst h4;rfl
theorem Dz (h:∀e∈l,e.key≠key):look l key=none:=by
 unfold look;rw[List.find?_eq_none];intro e he;simpa using h e he
theorem nK (h:look l key=some e):e∈l∧e.key=key:=by
 unfold look at h;exact⟨List.mem_of_find?_eq_some h,by simpa using List.find?_some h⟩
theorem DC {l':List av}(hp:l.Perm l')(hn:(l.map av.key).Nodup)(key:Nat):look l key=look l' key:=by
 cases h:look l' key with
 |none=>
  refine Dz fun e he hk=> ?_;have:=jc ((hp.map av.key).nodup_iff.1 hn) (hp.mem_iff.1 he);rw[hk,h]at this;cases this
 |some e=>
  obtain⟨h1,h2⟩:=nK h;rw[←h2];exact jc hn (hp.mem_iff.2 h1)
end
end Go.Proofs.YtnfjjbpmhcbelaaGreatDoor
