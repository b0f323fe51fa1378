/- A node as it is seen from above: its entries, its job, the room it has; what a step leaves of that. No statement of the claim. -/
import Derived.Test.YtkddpchpcepjgaaGreatDoorCoBY
namespace Go.Proofs.YtkddpchpcepjgaaGreatDoor
set_option maxHeartbeats 2000000
open Go cu
theorem yi:type_of% @List.mem_append_left:=@List.mem_append_left
theorem kn:type_of% @Bool.or_eq_false_iff:=@Bool.or_eq_false_iff
section
variable {H : Nat -> Nat}
inductive Phase where
 |idle
 |nR (k:Nat)
 |jq (Ts:List aC) (next:Nat)
structure Nd where
 pfx:Nat
 au:Nat
 kind:Nat
 sl:Nat
 T:aC
 ph:Phase
def Bv:Phase->List aC
 | .jq Ts _=>Ts
 |_=> []
def Phase.busy:Phase->Bool
 | .idle=>false
 |_=>true
def Nd.len (N:Nd):Nat:=N.T.gs.length
def Nd.many (N:Nd):Nat:=if N.kind=3 then 2 else 1
def Nd.each (N:Nd):Nat:=if N.kind=2 then 2*N.len else N.len
def Nd.ents (N:Nd):List ay:=dF (Bv N.ph)++aM N.T.gs
def Nd.left (N:Nd):Nat:=match N.ph with
 | .idle=>0
 | .nR k=>N.len+(N.each*N.many-k)
 | .jq _ next=>N.len-next
def Nd.groups (N:Nd):Nat:=if N.ph.busy then N.len+N.each*N.many else N.len
def nH (n d:Nat):Nat:=4*n-1+d*(3*n/8+1)
def tO (kind n d:Nat):Nat:=if kind=1 then(if n<64 then 2*n else 192)else nH n d+1
def kT (N:Nd):Prop:=N.kind=1\/(N.kind=2/\N.len<64)\/(N.kind=3/\8<=N.len/\N.au<5)
def lN (N:Nd):Prop:=match N.ph with
 | .idle=>N.kind=0/\load N.T<=nH N.len N.au+N.sl/8
 | .nR k=>kT N/\k<N.each*N.many/\load N.T<=nH N.len N.au+(k+N.sl)/8/\(aM N.T.gs).length+1<=tO N.kind N.len N.au+(k+N.sl)/8
 | .jq Ts next=>kT N/\next<=N.len/\Ao N.many N.each N.au Ts/\(∀i s e,aH N.T.gs i s= .full e->next<=i)/\loads Ts+(aM N.T.gs).length+1<=tO N.kind N.len N.au+(N.each*N.many+next+N.sl)/8
structure kH (H:Nat->Nat)(e:ay):Prop where
 hash:e.hash=H e.key
 h64:e.hash<18446744073709551616
 k64:e.key<18446744073709551616
 v64:e.val<18446744073709551616
structure dY (H:Nat->Nat)(N:Nd):Prop where
 tg:TG N.T
 deep:N.au<=5
 big:N.au=0\/8<=N.len
 pfx:N.pfx<2^N.au
 sl:N.sl<=8
 keys:(N.ents.map ay.key).Nodup
 hash:∀e∈N.ents,kH H e/\eu e.hash N.au=N.pfx
 few:N.ents.length<=192
 ph:lN N
theorem dY.pw {N:Nd}(h:dY H N):Pw N.len:=h.tg.ok.pow
theorem gF {N:Nd}(h:Pw N.len)(hk:kT N):Pw N.each/\(N.many=1\/N.many=2)/\N.each*N.many<=2*N.len/\N.len<=N.each*N.many/\
  (N.kind=1/\N.each=N.len/\N.many=1\/N.kind=2/\N.each=2*N.len/\N.many=1\/N.kind=3/\N.each=N.len/\N.many=2):=by
 unfold Nd.each Nd.many
 rcases hk with h1|⟨h1,h2⟩|⟨h1,h2,h3⟩<;>rw[h1]<;>simp
 ·exact⟨h,by omega⟩
 ·refine⟨?_,by omega⟩;unfold Pw at h|-;omega
 ·exact⟨h,by omega⟩
section
variable {n d k s L l kind : Nat}
theorem Pz (hn:Pw n)(hd:d<=5)(hb:d=0\/8<=n)(hk:k<=2*n)(h:L<=nH n d+k/8):L+1<=7*n:=by
 unfold nH at h;rcases hb with rfl|hb
 ·rcases hn with rfl|rfl|rfl|rfl|rfl|rfl|rfl<;>omega
 ·rcases hn with rfl|rfl|rfl|rfl|rfl|rfl|rfl<;>omega
theorem Jz {N:Nd}(hn:Pw N.len)(hd:N.au<=5)(hb:N.au=0\/8<=N.len)(hk:kT N)(hs:s<=3*N.len+8):tO N.kind N.len N.au+s/8<=7*N.each:=by
 unfold Nd.each;revert hk hb hn hd hs;unfold kT;generalize N.len=n;generalize N.au=d;intro hn hd hb hk hs
 rcases hk with h1|⟨h1,h2⟩|⟨h1,h2,h3⟩<;>rw[h1]<;>unfold tO nH<;>simp
 ·rcases hn with rfl|rfl|rfl|rfl|rfl|rfl|rfl<;>simp<;>omega
 ·rcases hb with rfl|hb<;>rcases hn with rfl|rfl|rfl|rfl|rfl|rfl|rfl<;>simp at* <;>omega
 ·rcases hn with rfl|rfl|rfl|rfl|rfl|rfl|rfl<;>simp at* <;>omega
theorem room_end {N:Nd}(hn:Pw N.len)(hd:N.au<=5)(hb:N.au=0\/8<=N.len)(hk:kT N)(hs:s<=8)(h:L+1<=tO N.kind N.len N.au+(N.each*N.many+N.len+s)/8):
  L<=nH N.each (if N.many=2 then N.au+1 else N.au):=by
 revert h;unfold Nd.each Nd.many;revert hk hb hn hd;unfold kT;generalize N.len=n;generalize N.au=d;intro hn hd hb hk h
 rcases hk with h1|⟨h1,h2⟩|⟨h1,h2,h3⟩<;>rw[h1]at h|-<;>unfold tO nH at* <;>simp at h|-
 ·rcases hn with rfl|rfl|rfl|rfl|rfl|rfl|rfl<;>simp at h|-<;>omega
 ·rcases hb with rfl|hb<;>rcases hn with rfl|rfl|rfl|rfl|rfl|rfl|rfl<;>simp at* <;>omega
 ·rcases hn with rfl|rfl|rfl|rfl|rfl|rfl|rfl<;>simp at* <;>omega
end
def Ap:bS:=⟨⟨0,0,0⟩,⟨0,0,0⟩⟩
def Nd.step (N:Nd):Nd:=match N.ph with
 | .idle=>N
 | .nR k=>{N with sl:=N.sl-1,ph:=if k+1=N.each*N.many then .jq (List.replicate N.many (eB N.each N.each)) 0 else .nR (k+1)}
 | .jq Ts next=>{N with sl:=N.sl-1,T:=takeN N.T next 8,ph:= .jq (fA N.many N.au (Ap,Ts) (bX (N.T.gs.getD next []))).2 (next+1)}
structure Like (N N':Nd):Prop where
 pfx:N'.pfx=N.pfx
 au:N'.au=N.au
 kind:N'.kind=N.kind
 len:N'.len=N.len
 busy:N'.ph.busy=N.ph.busy
theorem Like.each {N N':Nd}(h:Like N N'):N'.each=N.each:=by unfold Nd.each;rw[h.kind,h.len]
theorem Like.many {N N':Nd}(h:Like N N'):N'.many=N.many:=by unfold Nd.many;rw[h.kind]
theorem Like.groups {N N':Nd}(h:Like N N'):N'.groups=N.groups:=by unfold Nd.groups;rw[h.busy,h.each,h.many,h.len]
theorem Like.kindOk {N N':Nd}(h:Like N N')(hk:kT N):kT N':=by unfold kT at*;rw[h.kind,h.len,h.au];exact hk
theorem Like.refl (N:Nd):Like N N:=⟨rfl,rfl,rfl,rfl,rfl⟩
theorem Like.trans {N N' N2:Nd}(h:Like N N')(k:Like N' N2):Like N N2:=⟨k.pfx.trans h.pfx,k.au.trans h.au,k.kind.trans h.kind,k.len.trans h.len,k.busy.trans h.busy⟩
theorem sG (N:Nd):Like N N.step:=by
 unfold Nd.step
 cases h:N.ph with
 |idle=>exact Like.refl N
 |nR k=>exact⟨rfl,rfl,rfl,rfl,by simp only;rw[h];split<;>rfl⟩
 |jq Ts next=>exact⟨rfl,rfl,rfl,tH _ _ _,by rw[h];rfl⟩
theorem dY.fits {N:Nd}(h:dY H N){Ts:List aC}{next:Nat}(hp:N.ph= .jq Ts next)(hn:next<N.len)(x:bS):
  Fits N.many N.au Ts (bX (N.T.gs.getD next []))/\Ao N.many N.each N.au (fA N.many N.au (x,Ts) (bX (N.T.gs.getD next []))).2/\(dF (fA N.many N.au (x,Ts) (bX (N.T.gs.getD next []))).2).Perm (bX (N.T.gs.getD next [])++dF Ts)/\
   loads (fA N.many N.au (x,Ts) (bX (N.T.gs.getD next []))).2<=loads Ts+(bX (N.T.gs.getD next [])).length/\∃c,(fA N.many N.au (x,Ts) (bX (N.T.gs.getD next []))).1=x.add cV c:=by
 have bV:=h.ph;unfold lN at bV;rw[hp]at bV;obtain⟨h1,h2,h3,h4,h5⟩:=bV;obtain⟨k1,k2,k3,k4,_⟩:=gF h.pw h1;obtain⟨t1,t2,t3⟩:=Co h.tg hn;have hsl:=h.sl;have hB:=Jz h.pw h.deep h.big h1 (s:=N.each*N.many+next+N.sl) (by omega);have hlen:=t3.length_eq;rw[ZD]at hlen
 have afG:N.ents=dF Ts++aM N.T.gs:=by unfold Nd.ents;rw[hp];rfl
 have hpe:N.ents.Perm ((bX (N.T.gs.getD next [])++dF Ts)++aM (takeN N.T next 8).gs):=by
  rw[afG];refine(t3.append_left _).trans ?_;rw[<-qe];exact YY.append_right _
 refine moves k2 hB _ Ts x h3 ?_ (λe he=> ?_) (by omega)
 ·have:=(hpe.map ay.key).nodup_iff.1 h.keys;rw[jn]at this;exact(yq.1 this).1
 ·exact(h.hash e (hpe.mem_iff.2 (yi _ (yi _ he)))).1.h64
theorem Mi {N:Nd}(h:dY H N)(hl:1<=N.left):N.step.ents.Perm N.ents:=by
 cases hp:N.ph with
 |idle=>unfold Nd.left at hl;rw[hp]at hl;simp at hl
 |nR k=>
  have bV:=h.ph;unfold lN at bV;rw[hp]at bV;unfold Nd.step Nd.ents;rw[hp];simp only;split
  ·rw[show Bv (Phase.jq (List.replicate N.many (eB N.each N.each)) 0)=List.replicate N.many (eB N.each N.each)from rfl,(Mg (m:=N.many) (d:=N.au) (gF h.pw bV.1).1).2.1];exact .refl _
  ·exact .refl _
 |jq Ts next=>
  have hn:next<N.len:=by unfold Nd.left at hl;rw[hp]at hl;simp only at hl;omega
  obtain⟨_,_,h3,_⟩:=h.fits hp hn Ap;obtain⟨_,_,t3⟩:=Co h.tg hn;unfold Nd.step Nd.ents;rw[hp];show(dF (fA N.many N.au (Ap,Ts) (bX (N.T.gs.getD next []))).2++aM (takeN N.T next 8).gs).Perm (dF Ts++aM N.T.gs);refine(h3.append_right _).trans (List.Perm.trans ?_ (t3.symm.append_left _));rw[<-qe];exact YY.append_right _
theorem Xy {N:Nd}(h:dY H N)(hl:1<=N.left):N.step.left+1=N.left:=by
 have hL:=sG N;unfold Nd.left at hl|-;rw[hL.len,hL.each,hL.many]
 cases hp:N.ph with
 |idle=>rw[hp]at hl;simp at hl
 |nR k=>
  have bV:=h.ph;unfold lN at bV;rw[hp]at bV;obtain⟨_,hk,_⟩:=bV;by_cases h1:k+1=N.each*N.many
  ·have hP:N.step.ph= .jq (List.replicate N.many (eB N.each N.each)) 0:=by unfold Nd.step;rw[hp];simp only;rw[if_pos h1]
   rw[hP];show N.len-0+1=N.len+(N.each*N.many-k);omega
  ·have hP:N.step.ph= .nR (k+1):=by unfold Nd.step;rw[hp];simp only;rw[if_neg h1]
   rw[hP];show N.len+(N.each*N.many-(k+1))+1=N.len+(N.each*N.many-k);omega
 |jq Ts next=>
  rw[hp]at hl;unfold Nd.step;rw[hp];simp only at hl|-;omega
theorem step_ok {N:Nd}(h:dY H N)(hl:1<=N.left):dY H N.step:=by
 have hL:=sG N;have hE:=Mi h hl
 have hsl:N.step.sl=N.sl-1:=by
  unfold Nd.step
  cases hp:N.ph with
  |idle=>unfold Nd.left at hl;rw[hp]at hl;simp at hl
  |_=>rfl
 refine⟨?_,by rw[hL.au];exact h.deep,by rw[hL.au,hL.len];exact h.big,by rw[hL.au,hL.pfx];exact h.pfx,by rw[hsl];have:=h.sl;omega,(hE.map ay.key).nodup_iff.2 h.keys,λe he=>by rw[hL.au,hL.pfx];exact h.hash e (hE.mem_iff.1 he),by rw[hE.length_eq];exact h.few, ?_⟩
 ·cases hp:N.ph with
  |idle=>unfold Nd.left at hl;rw[hp]at hl;simp at hl
  |nR k=>
   have hT:N.step.T=N.T:=by unfold Nd.step;rw[hp]
   rw[hT];exact h.tg
  |jq Ts next=>
   have hn:next<N.len:=by unfold Nd.left at hl;rw[hp]at hl;simp only at hl;omega
   have hT:N.step.T=takeN N.T next 8:=by unfold Nd.step;rw[hp]
   rw[hT];exact(Co h.tg hn).1
 ·have bV:=h.ph;have hs:=h.sl;unfold lN at bV|-;rw[hL.len,hL.each,hL.many,hL.kind,hL.au,hsl]
  cases hp:N.ph with
  |idle=>unfold Nd.left at hl;rw[hp]at hl;simp at hl
  |nR k=>
   rw[hp]at bV;obtain⟨h1,h2,h3,h4⟩:=bV
   have hT:N.step.T=N.T:=by unfold Nd.step;rw[hp]
   rw[hT];by_cases hk:k+1=N.each*N.many
   ·have hP:N.step.ph= .jq (List.replicate N.many (eB N.each N.each)) 0:=by unfold Nd.step;rw[hp];simp only;rw[if_pos hk]
    rw[hP];obtain⟨b1,b2,b3⟩:=Mg (m:=N.many) (n:=N.each) (d:=N.au) (gF h.pw h1).1;refine⟨hL.kindOk h1,Q4 _,b1,λ_ _ _ _=>Q4 _, ?_⟩;rw[b3,<-hk];omega
   ·have hP:N.step.ph= .nR (k+1):=by unfold Nd.step;rw[hp];simp only;rw[if_neg hk]
    rw[hP];exact⟨hL.kindOk h1,by omega,by omega,by omega⟩
  |jq Ts next=>
   rw[hp]at bV
   have hn:next<N.len:=by unfold Nd.left at hl;rw[hp]at hl;simp only at hl;omega
   obtain⟨h1,h2,h3,h4,h5⟩:=bV;obtain⟨_,f2,_,f4,_⟩:=h.fits hp hn Ap;obtain⟨_,t2,t3⟩:=Co h.tg hn
   have hT:N.step.T=takeN N.T next 8:=by unfold Nd.step;rw[hp]
   have hP:N.step.ph= .jq (fA N.many N.au (Ap,Ts) (bX (N.T.gs.getD next []))).2 (next+1):=by unfold Nd.step;rw[hp]
   rw[hT,hP];have hlen:=t3.length_eq;rw[ZD]at hlen;refine⟨hL.kindOk h1,by omega,f2,λi s e he=> ?_,by omega⟩;obtain⟨a,b⟩:=(t2 i s e).1 he;have:=h4 i s e a;omega
end
section
variable {H : Nat -> Nat} {add del l : List ay} {X Y : aC} {Ts : List aC} {gl key next : Nat} {e : ay}
def Nd.qQ (N:Nd)(X:aC)(s:Nat):Nd:={N with T:=X,sl:=s}
def Nd.PD (N:Nd)(Ts:List aC)(next j:Nat)(X:aC)(s:Nat):Nd:={N with ph:= .jq (Ts.set j X) next,sl:=s}
structure Wr (H:Nat->Nat)(del add:List ay)(N N':Nd):Prop where
 like:Like N N'
 left:N'.left=N.left
 Jy:uU del add N.ents N'.ents
 ok:dY H N'
 sl:add.length<=del.length->N'.sl=N.sl
 ld:N.ph= .idle->load N'.T<=load N.T+(add.length-del.length)
structure vR (H:Nat->Nat)(N:Nd)(del add:List ay):Prop where
 hash:∀e∈add,kH H e/\eu e.hash N.au=N.pfx
 keys:∀rest,N.ents.Perm (del++rest)->((add++rest).map ay.key).Nodup
 few:N.ents.length+add.length<=192+del.length
 one:add.length<=del.length\/add.length=1/\del=[]/\N.sl=0
def nC (del add:List ay)(s:Nat):Nat:=if del.length<add.length then 8 else s
theorem Wr.of {N N':Nd}(h:dY H N)(ha:vR H N del add)(hL:Like N N')(hl:N'.left=N.left)(hc:uU del add N.ents N'.ents)(ht:TG N'.T)(hs:N'.sl=nC del add N.sl)(hld:N.ph= .idle->load N'.T<=load N.T+(add.length-del.length))(hp:lN N'):Wr H del add N N':=by
 refine⟨hL,hl,hc,⟨ht,by rw[hL.au];exact h.deep,by rw[hL.au,hL.len];exact h.big,by rw[hL.au,hL.pfx];exact h.pfx, ?_, ?_,λe he=> ?_, ?_,hp⟩,λhh=>by rw[hs];unfold nC;rw[if_neg (by omega)],hld⟩
 ·rw[hs];unfold nC;have:=h.sl;split<;>omega
 ·obtain⟨r,h1,h2⟩:=hc;exact(h2.map ay.key).nodup_iff.2 (ha.keys r h1)
 ·rw[hL.au,hL.pfx];rcases hc.mem he with h1|h1
  ·exact ha.hash e h1
  ·exact h.hash e h1
 ·have:=hc.len;have:=ha.few;omega
theorem aaL {N:Nd}(h:dY H N)(ha:vR H N del add)(hc:Cn del add N.T X)(hm:∀Ts next,N.ph= .jq Ts next->del≠[]/\add.length<=del.length):Wr H del add N (N.qQ X (nC del add N.sl)):=by
 have hL:Like N (N.qQ X (nC del add N.sl)):=⟨rfl,rfl,rfl,hc.len,rfl⟩;have hlen:=hc.Jy.len;have hld:=hc.load_;have hs:=h.sl;have h1:=ha.one;refine Wr.of h ha hL ?_ ?_ hc.tg rfl (λ_=>hc.load_) ?_
 ·unfold Nd.left;rw[hL.len,hL.each,hL.many];rfl
 ·have:=hc.Jy.wrap (dF (Bv N.ph)) [];show uU del add (dF (Bv N.ph)++aM N.T.gs) (dF (Bv N.ph)++aM X.gs);simpa using this
 ·have bV:=h.ph;unfold lN at bV|-;rw[hL.len,hL.each,hL.many]
  show match N.ph with
   | .idle=>N.kind=0/\load X<=nH N.len N.au+nC del add N.sl/8
   | .nR k=>kT (N.qQ X (nC del add N.sl))/\k<N.each*N.many/\load X<=nH N.len N.au+(k+nC del add N.sl)/8/\(aM X.gs).length+1<=tO N.kind N.len N.au+(k+nC del add N.sl)/8
   | .jq Ts next=>kT (N.qQ X (nC del add N.sl))/\next<=N.len/\Ao N.many N.each N.au Ts/\(∀i s e,aH X.gs i s= .full e->next<=i)/\loads Ts+(aM X.gs).length+1<=tO N.kind N.len N.au+(N.each*N.many+next+nC del add N.sl)/8
  have hsk:(add.length<=del.length/\nC del add N.sl=N.sl)\/(add.length=1/\del.length=0/\N.sl=0/\nC del add N.sl=8):=by
   rcases h1 with h2|⟨h2,h3,h4⟩
   ·exact .inl ⟨h2,by unfold nC;rw[if_neg (by omega)]⟩
   ·exact .inr ⟨h2,by rw[h3];rfl,h4,by unfold nC;rw[if_pos (by rw[h3,h2];simp)]⟩
  cases hp:N.ph with
  |idle=>
   rw[hp]at bV;exact⟨bV.1,by have:=bV.2;omega⟩
  |nR k=>
   rw[hp]at bV;obtain⟨g1,g2,g3,g4⟩:=bV;exact⟨hL.kindOk g1,g2,by omega,by omega⟩
  |jq Ts next=>
   rw[hp]at bV;obtain⟨g1,g2,g3,g4,g5⟩:=bV
   obtain⟨m1,m2⟩:=hm Ts next hp
   refine⟨hL.kindOk g1,g2,g3,λi s e he=> ?_,by omega⟩;rcases hc.at_ i s e he with h2|⟨e0,h2⟩
   ·exact absurd h2 m1
   ·exact g4 i s e0 h2
theorem agm {N:Nd}{j:Nat}(h:dY H N)(hp:N.ph= .jq Ts next)(hj:Ts[j]?=some Y)(ha:vR H N del add)(hc:Cn del add Y X)(hsd:∀e∈add,dJ N.many N.au e.hash=j):Wr H del add N (N.PD Ts next j X (nC del add N.sl)):=by
 have hL:Like N (N.PD Ts next j X (nC del add N.sl)):=⟨rfl,rfl,rfl,rfl,by rw[hp];rfl⟩;have hlen:=hc.Jy.len;have hld:=hc.load_;have hs:=h.sl;have h1:=ha.one;have hls:=Mf hj X;refine Wr.of h ha hL ?_ ?_ h.tg rfl (λhh=>by rw[hp]at hh;cases hh) ?_
 ·unfold Nd.left;rw[hp];rfl
 ·obtain⟨A,B,hA,hB⟩:=Eh hj;have:=hc.Jy.wrap A (B++aM N.T.gs);unfold Nd.ents;rw[hp];show uU del add (dF Ts++aM N.T.gs) (dF (Ts.set j X)++aM N.T.gs);rw[hA,hB];simpa using this
 ·have bV:=h.ph;unfold lN at bV;rw[hp]at bV;obtain⟨g1,g2,g3,g4,g5⟩:=bV
  show kT _/\next<=N.len/\Ao N.many N.each N.au (Ts.set j X)/\(∀i s e,aH N.T.gs i s= .full e->next<=i)/\loads (Ts.set j X)+(aM N.T.gs).length+1<=tO N.kind N.len N.au+(N.each*N.many+next+nC del add N.sl)/8
  refine⟨hL.kindOk g1,g2,g3.ak hj hc hsd,g4, ?_⟩
  have hsk:(add.length<=del.length/\nC del add N.sl=N.sl)\/(add.length=1/\del.length=0/\N.sl=0/\nC del add N.sl=8):=by
   rcases h1 with h2|⟨h2,h3,h4⟩
   ·exact .inl ⟨h2,by unfold nC;rw[if_neg (by omega)]⟩
   ·exact .inr ⟨h2,by rw[h3];rfl,h4,by unfold nC;rw[if_pos (by rw[h3,h2];simp)]⟩
  omega
theorem Te {N:Nd}(h:dY H N)(he:kH H e)(ht:eu e.hash N.au=N.pfx)(hk:∀x∈N.ents,x.key≠e.key)(hf:N.ents.length+1<=192)(hs:N.sl=0):vR H N [] [e]:=
 ⟨λx hx=>by simp at hx;subst hx;exact⟨he,ht⟩,λr hr=>by
  have h1:=(hr.map ay.key).nodup_iff.1 h.keys;rw[ya]at h1 hr;rw[List.singleton_append,ye,qa]
  exact⟨λhh=>by obtain⟨x,h2,h3⟩:=Z3.1 hh;exact hk x (hr.mem_iff.2 h2) h3,h1⟩,by simpa using hf,.inr ⟨rfl,rfl,hs⟩⟩
theorem aaM {N:Nd}(h:dY H N):vR H N [e] []:=
 ⟨λx hx=>by simp at hx,λr hr=>by
  have h1:=(hr.map ay.key).nodup_iff.1 h.keys;rw[List.singleton_append,ye,qa]at h1
  exact h1.2,by have:=h.few;simp;omega,.inl (by simp)⟩
theorem Mj {N:Nd}{v:Nat}(h:dY H N)(he:e∈N.ents)(hv:v<18446744073709551616):vR H N [e] [{e with val:=v}]:=
 ⟨λx hx=>by simp at hx;subst hx;obtain⟨h1,h2⟩:=h.hash e he;exact⟨⟨h1.hash,h1.h64,h1.k64,hv⟩,h2⟩,λr hr=>by
  have h1:=(hr.map ay.key).nodup_iff.1 h.keys
  simpa using h1,by have:=h.few;simp;omega,.inl (by simp)⟩
def Nd.start (N:Nd)(kind:Nat):Nd:={N with kind:=kind,sl:=8,ph:= .nR 0}
theorem PE {N:Nd}{kind:Nat}(h:dY H N)(hi:N.ph= .idle)(hgl:gl<=5)(hk:jR N.T.live N.T.dh N.len N.au gl=kind)(h0:kind≠0):dY H (N.start kind)/\(N.start kind).ents=N.ents:=by
 have hE:(N.start kind).ents=N.ents:=by unfold Nd.ents Nd.start;rw[hi];rfl
 have bV:=h.ph;unfold lN at bV;rw[hi]at bV;have hs:=h.sl;have hl:=h.tg.ok.live
 have hK:kT (N.start kind)/\(kind=1->2*N.len<(aM N.T.gs).length->N.len=64):=by
  unfold jR at hk;split at hk
  ·exact absurd hk.symm h0
  ·split at hk
   ·next h1=>subst hk;exact⟨.inl rfl,λ_ h2=>by omega⟩
   ·split at hk
    ·next h1=>subst hk;exact⟨.inr (.inr ⟨rfl,h1.1,by show N.au<5;omega⟩),λhh=>by omega⟩
    ·split at hk
     ·next h1=>subst hk;exact⟨.inr (.inl ⟨rfl,h1⟩),λhh=>by omega⟩
     ·next h1=>subst hk;exact⟨.inl rfl,λ_ _=>by have:=h.pw.le;omega⟩
 have hle:(aM N.T.gs).length<=load N.T:=by unfold load;omega
 have PG:=h.few
 have hE2:N.ents.length=(aM N.T.gs).length:=by unfold Nd.ents;rw[hi];simp[Bv,dF]
 have hkE:=gF (N:=N.start kind) h.pw hK.1;refine⟨⟨h.tg,h.deep,h.big,h.pfx,zb 8,by rw[hE];exact h.keys,by rw[hE];exact h.hash,by rw[hE];exact h.few, ?_⟩,hE⟩;show kT (N.start kind)/\0<(N.start kind).each*(N.start kind).many/\load N.T<=nH N.len N.au+(0+8)/8/\(aM N.T.gs).length+1<=tO kind N.len N.au+(0+8)/8;have hpos:=h.pw.pos;have hlen:(N.start kind).len=N.len:=rfl;refine⟨hK.1,by omega,by omega, ?_⟩;unfold tO;by_cases h1:kind=1
 ·rw[if_pos h1];have:=hK.2 h1;have h64:=h.pw.le;by_cases h2:N.len<64
  ·rw[if_pos h2];omega
  ·rw[if_neg h2];omega
 ·rw[if_neg h1];omega
theorem ac3 {N:Nd}(h:dY H N)(hi:N.ph= .idle)(hk:jR N.T.live N.T.dh N.len N.au gl=0):dY H {N with sl:=0}:=by
 have bV:=h.ph;unfold lN at bV;rw[hi]at bV;have hl:=h.tg.U3
 have hn:nQ N.T.live N.T.dh N.len=false:=by
  unfold jR at hk;split at hk
  ·assumption
  ·split at hk
   ·cases hk
   ·split at hk
    ·cases hk
    ·split at hk<;>cases hk
 unfold nQ at hn;simp only[kn,decide_eq_false_iff_not]at hn;refine⟨h.tg,h.deep,h.big,h.pfx,Q4 _,h.keys,h.hash,h.few, ?_⟩;unfold lN
 show match N.ph with
  | .idle=>N.kind=0/\load N.T<=nH N.len N.au+0/8
  | .nR k=>_
  | .jq Ts next=>_
 rw[hi];refine⟨bV.1, ?_⟩;unfold nH;have:=h.pw.pos;omega
theorem ended {N:Nd}(h:dY H N)(hb:N.ph.busy=true)(hl:N.left=0):∃Ts,N.ph= .jq Ts N.len/\aM N.T.gs=[]:=by
 have bV:=h.ph;unfold lN at bV;have hpos:=h.pw.pos;unfold Nd.left at hl
 cases hp:N.ph with
 |idle=>rw[hp]at hb;cases hb
 |nR k=>rw[hp]at hl;simp only at hl;omega
 |jq Ts next=>
  rw[hp]at hl bV;simp only at hl;obtain⟨h1,h2,h3,h4,h5⟩:=bV
  obtain rfl:next=N.len:=by omega
  refine⟨Ts,rfl,List.eq_nil_iff_forall_not_mem.2 λe he=> ?_⟩;obtain⟨i,s,hs⟩:=rU.1 he;have:=h4 i s e hs;have:=(lu (gs:=N.T.gs) (i:=i) (s:=s) (by rw[hs];exact λh=>by cases h)).1;unfold Nd.len at*;omega
theorem aaN {h d:Nat}(hd:d<=5):eu h (d+1)=2*eu h d+vM h d:=by
 unfold eu vM
 have h1:64-(d+1)=63-d:=by omega
 have h2:(2:Nat)^(64-d)=2^(63-d)*2:=by rw[<-xd];congr 1;omega
 rw[h1,h2,<-kw];omega
theorem ac4 {N:Nd}(h:dY H N)(hp:N.ph= .jq [X] N.len)(hT:aM N.T.gs=[]):dY H ⟨N.pfx,N.au,0,0,X,.idle⟩/\(Nd.mk N.pfx N.au 0 0 X .idle).ents=N.ents/\X.gs.length=N.each/\N.many=1:=by
 have bV:=h.ph;unfold lN at bV;rw[hp]at bV;obtain⟨h1,h2,h3,h4,h5⟩:=bV;obtain⟨k1,k2,k3,k4,k5⟩:=gF h.pw h1
 have hm:N.many=1:=by have:=h3.len;simpa using this.symm
 obtain⟨x1,x2⟩:=h3.tg 0 X rfl
 have hE:(Nd.mk N.pfx N.au 0 0 X .idle).ents=N.ents:=by unfold Nd.ents;rw[hp,hT];simp[Bv,dF]
 have hr:=room_end (L:=load X) h.pw h.deep h.big h1 h.sl (by rw[hT]at h5;simpa[loads]using h5);rw[hm,if_neg (by omega)]at hr;refine⟨⟨x1,h.deep, ?_,h.pfx,Q4 _,by rw[hE];exact h.keys,by rw[hE];exact h.hash,by rw[hE];exact h.few,rfl, ?_⟩,hE,x2,hm⟩
 ·rcases h.big with hb|hb
  ·exact .inl hb
  ·right;show 8<=X.gs.length;rw[x2,<-Nat.mul_one N.each,<-hm];omega
 ·show load X<=nH X.gs.length N.au+0/8;rw[x2];omega
theorem ac5 {N:Nd}(h:dY H N)(hp:N.ph= .jq [X,Y] N.len)(hT:aM N.T.gs=[]):dY H ⟨2*N.pfx,N.au+1,0,0,X,.idle⟩/\dY H ⟨2*N.pfx+1,N.au+1,0,0,Y,.idle⟩/\
  (Nd.mk (2*N.pfx) (N.au+1) 0 0 X .idle).ents++(Nd.mk (2*N.pfx+1) (N.au+1) 0 0 Y .idle).ents=N.ents/\X.gs.length=N.each/\Y.gs.length=N.each/\N.many=2/\N.au<5:=by
 have bV:=h.ph;unfold lN at bV;rw[hp]at bV;obtain⟨h1,h2,h3,h4,h5⟩:=bV;obtain⟨k1,k2,k3,k4,k5⟩:=gF h.pw h1
 have hm:N.many=2:=by have:=h3.len;simpa using this.symm
 have hk3:N.kind=3/\N.each=N.len:=by omega
 have hd5:8<=N.len/\N.au<5:=by rcases h1 with h6|h6|h6<;>omega
 obtain⟨x1,x2⟩:=h3.tg 0 X rfl;obtain⟨y1,y2⟩:=h3.tg 1 Y rfl
 have hE:(Nd.mk (2*N.pfx) (N.au+1) 0 0 X .idle).ents++(Nd.mk (2*N.pfx+1) (N.au+1) 0 0 Y .idle).ents=N.ents:=by unfold Nd.ents;rw[hp,hT];simp[Bv,dF]
 have hl:loads [X,Y]=load X+load Y:=by simp[loads]
 rw[hT,hl,yv]at h5;have hr1:=room_end (L:=load X) h.pw h.deep h.big h1 h.sl (by omega);have hr2:=room_end (L:=load Y) h.pw h.deep h.big h1 h.sl (by omega);rw[if_pos hm]at hr1 hr2;have hkeys:=h.keys;rw[<-hE,jn]at hkeys;have hn:=yq.1 hkeys;have PG:=h.few;rw[<-hE,ZD]at PG;have hpf:=h.pfx;have hpw:2^(N.au+1)=2^N.au*2:=xd ..
 have hside:∀(j:Nat) (Z:aC) (e:ay),[X,Y][j]?=some Z->e∈aM Z.gs->kH H e/\eu e.hash (N.au+1)=2*N.pfx+j:=λj Z e hZ he=>by
  have h6:=h3.side j Z e hZ he;obtain⟨h7,h8⟩:=h.hash e (by unfold Nd.ents;rw[hp];exact yi _ (oM.2 ⟨j,Z,hZ,he⟩));refine⟨h7, ?_⟩;rw[aaN (by omega),h8];unfold dJ at h6;rw[if_neg (by omega)]at h6;omega
 refine⟨⟨x1,by show N.au+1<=5;omega,.inr (by show 8<=X.gs.length;omega),by show 2*N.pfx<2^(N.au+1);omega,Q4 _,hn.1,λe he=>hside 0 X e rfl (by simpa[Nd.ents,Bv,dF]using he),by omega,rfl,by show load X<=nH X.gs.length (N.au+1)+0/8;rw[x2];omega⟩,
  ⟨y1,by show N.au+1<=5;omega,.inr (by show 8<=Y.gs.length;omega),by show 2*N.pfx+1<2^(N.au+1);omega,Q4 _,hn.2.1,λe he=>hside 1 Y e rfl (by simpa[Nd.ents,Bv,dF]using he),by omega,rfl,by show load Y<=nH Y.gs.length (N.au+1)+0/8;rw[y2];omega⟩,hE,x2,y2,hm,hd5.2⟩
theorem Xz {N:Nd}(h:dY H N)(hp:N.ph= .jq Ts next):∃Tx,Ts[dJ N.many N.au (H key)]?=some Tx/\
  ((∃e∈N.ents,e.key=key/\e.hash=H key/\((e∈aM Tx.gs/\∃i s,(aJ Tx.gs key (H key)).1=some (i,s)/\aH Tx.gs i s= .full e)\/((aJ Tx.gs key (H key)).1=none/\∃i s,(aJ N.T.gs key (H key)).1=some (i,s)/\aH N.T.gs i s= .full e)))\/
   ((∀e∈N.ents,e.key≠key)/\(aJ Tx.gs key (H key)).1=none/\(aJ N.T.gs key (H key)).1=none)):=by
 have bV:=h.ph;unfold lN at bV;rw[hp]at bV;obtain⟨h1,h2,h3,h4,h5⟩:=bV;obtain⟨k1,k2,k3,k4,k5⟩:=gF h.pw h1;obtain⟨Tx,hT⟩:∃Tx,Ts[dJ N.many N.au (H key)]?=some Tx:=⟨_,zg (by rw[h3.len];exact Td k2)⟩
 have hE:N.ents=dF Ts++aM N.T.gs:=by unfold Nd.ents;rw[hp];rfl
 refine⟨Tx,hT, ?_⟩;have hnk:=h.keys;rw[hE,jn]at hnk;by_cases hex:∃e∈N.ents,e.key=key
 ·obtain⟨e,he,hk⟩:=hex;have hh:=(h.hash e he).1.hash;rw[hk]at hh;refine .inl ⟨e,he,hk,hh, ?_⟩;rw[hE]at he;rcases Zs.1 he with he|he
  ·obtain⟨j,T',hj,heT⟩:=oM.1 he;have hs:=h3.side j T' e hj heT;rw[hh]at hs;rw[hs]at hT;rw[hT]at hj;cases hj;obtain⟨i,s,a,b⟩:=KH (h3.tg j Tx hT).1 heT;rw[hk,hh]at a;exact .inl ⟨heT,i,s,a,b⟩
  ·obtain⟨i,s,a,b⟩:=KH h.tg he;rw[hk,hh]at a;refine .inr ⟨rV λx hx hxk=> ?_,i,s,a,b⟩;exact(yq.1 hnk).2.2 x.key (QQ (oM.2 ⟨_,_,hT,hx⟩)) e.key (QQ he) (hxk.trans hk.symm)
 ·have hne:∀e∈N.ents,e.key≠key:=λe he hk=>hex ⟨e,he,hk⟩;exact .inr ⟨hne,rV λx hx=>hne x (by rw[hE];exact yi _ (oM.2 ⟨_,_,hT,hx⟩)),rV λx hx=>hne x (by rw[hE];exact jj _ hx)⟩
theorem Mk {N:Nd}(h:dY H N)(hp:Bv N.ph=[]):(∃e∈N.ents,e.key=key/\e.hash=H key/\∃i s,(aJ N.T.gs key (H key)).1=some (i,s)/\aH N.T.gs i s= .full e)\/((∀e∈N.ents,e.key≠key)/\(aJ N.T.gs key (H key)).1=none):=by
 have hE:N.ents=aM N.T.gs:=by unfold Nd.ents;rw[hp];rfl
 by_cases hex:∃e∈N.ents,e.key=key
 ·obtain⟨e,he,hk⟩:=hex;have hh:=(h.hash e he).1.hash;rw[hk]at hh;obtain⟨i,s,a,b⟩:=KH h.tg (hE▸he);rw[hk,hh]at a;exact .inl ⟨e,he,hk,hh,i,s,a,b⟩
 ·have hne:∀e∈N.ents,e.key≠key:=λe he hk=>hex ⟨e,he,hk⟩;exact .inr ⟨hne,rV λx hx=>hne x (by rw[hE];exact hx)⟩
def look (l:List ay)(key:Nat):Option ay:=l.find? λe=>e.key==key
theorem jI (hn:(l.map ay.key).Nodup)(he:e∈l):look l e.key=some e:=by
 unfold look
 cases hf:l.find? (λx=>x.key==e.key)with
 |none=>exact absurd (j9.1 hf e he) (by simp)
 |some x=>
  have h1:=kh hf;have h2:=Vc hf;simp at h2;congr 1;obtain⟨i,hi,rfl⟩:=List.getElem_of_mem h1;obtain⟨j,hj,rfl⟩:=List.getElem_of_mem he
  have h3:(l.map ay.key)[i]'(by simpa using hi)=(l.map ay.key)[j]'(by simpa using hj):=by simpa using h2
  have h4:=(List.getElem_inj hn).1 h3;subst h4;rfl
theorem Ei (h:∀e∈l,e.key≠key):look l key=none:=by
 unfold look;rw[j9];intro e he;simpa using h e he
theorem qj (h:look l key=some e):e∈l/\e.key=key:=by
 unfold look at h;exact⟨kh h,by simpa using Vc h⟩
theorem Ej {l':List ay}(hp:l.Perm l')(hn:(l.map ay.key).Nodup)(key:Nat):look l key=look l' key:=by
 cases h:look l' key with
 |none=>
  refine Ei λe he hk=> ?_;have:=jI ((hp.map ay.key).nodup_iff.1 hn) (hp.mem_iff.1 he);rw[hk,h]at this;cases this
 |some e=>
  obtain⟨h1,h2⟩:=qj h;rw[<-h2];exact jI hn (hp.mem_iff.2 h1)
end
