/- A node as it is seen from above: its entries, its job, the room it has; what a step leaves of that. No statement of the claim. -/
import Derived.Test.YtkkibocdfijnhaaGreatDoorCoBY
import Derived.Test.YtkkibocdfijnhaaGreatDoorSqM
namespace Go.Proofs.YtkkibocdfijnhaaGreatDoor
set_option maxHeartbeats 2000000
open Go bV
section
variable {H : Nat → Nat}
inductive Phase where
 |idle
 |mO (k:Nat)
 |iV (Ts:List aC) (next:Nat)
structure Nd where
 pfx:Nat
 au:Nat
 kind:Nat
 sl:Nat
 T:aC
 ph:Phase
def zV:Phase→List aC
 | .iV Ts _=>Ts
 |_=> []
def Phase.busy:Phase→Bool
 | .idle=>false
 |_=>true
def Nd.len (N:Nd):Nat:=N.T.gs.length
def Nd.many (N:Nd):Nat:=if N.kind=3 then 2 else 1
def Nd.each (N:Nd):Nat:=if N.kind=2 then 2*N.len else N.len
def Nd.ents (N:Nd):List ay:=dA (zV N.ph)++aM N.T.gs
def Nd.left (N:Nd):Nat:=match N.ph with
 | .idle=>0
 | .mO k=>N.len+(N.each*N.many-k)
 | .iV _ next=>N.len-next
def Nd.groups (N:Nd):Nat:=if N.ph.busy then N.len+N.each*N.many else N.len
def mD (n d:Nat):Nat:=4*n-1+d*(3*n/8+1)
def rU (kind n d:Nat):Nat:=if kind=1 then(if n<64 then 2*n else 192)else mD n d+1
def jX (N:Nd):Prop:=N.kind=1∨(N.kind=2∧N.len<64)∨(N.kind=3∧8≤N.len∧N.au<5)
def kJ (N:Nd):Prop:=match N.ph with
 | .idle=>N.kind=0∧load N.T≤mD N.len N.au+N.sl/8
 | .mO k=>jX N∧k<N.each*N.many∧load N.T≤mD N.len N.au+(k+N.sl)/8∧(aM N.T.gs).length+1≤rU N.kind N.len N.au+(k+N.sl)/8
 | .iV Ts next=>jX N∧next≤N.len∧za N.many N.each N.au Ts∧(∀i s e,aH N.T.gs i s= .full e→next≤i)∧loads Ts+(aM N.T.gs).length+1≤rU N.kind N.len N.au+(N.each*N.many+next+N.sl)/8
structure jK (H:Nat→Nat)(e:ay):Prop where
 hash:e.hash=H e.key
 h64:e.hash<18446744073709551616
 k64:e.key<18446744073709551616
 v64:e.val<18446744073709551616
structure dV (H:Nat→Nat)(N:Nd):Prop where
 tg:TG N.T
 deep:N.au≤5
 big:N.au=0∨8≤N.len
 pfx:N.pfx<2^N.au
 sl:N.sl≤8
 keys:(N.ents.map ay.key).Nodup
 hash:∀e∈N.ents,jK H e∧dW e.hash N.au=N.pfx
 few:N.ents.length≤192
 ph:kJ N
theorem dV.pw {N:Nd}(h:dV H N):Pw N.len:=h.tg.ok.pow
theorem fT {N:Nd}(h:Pw N.len)(hk:jX N):Pw N.each∧(N.many=1∨N.many=2)∧N.each*N.many≤2*N.len∧N.len≤N.each*N.many∧
  (N.kind=1∧N.each=N.len∧N.many=1∨N.kind=2∧N.each=2*N.len∧N.many=1∨N.kind=3∧N.each=N.len∧N.many=2):=by
 unfold Nd.each Nd.many
 rcases hk with h1|⟨h1,h2⟩|⟨h1,h2,h3⟩<;>rw[h1]<;>simp
 ·exact⟨h,by omega⟩
 ·refine⟨?_,by omega⟩;unfold Pw at h⊢;omega
 ·exact⟨h,by omega⟩
section
variable {n d k s L l kind : Nat}
theorem Nv (hn:Pw n)(hd:d≤5)(hb:d=0∨8≤n)(hk:k≤2*n)(h:L≤mD n d+k/8):L+1≤7*n:=by
 unfold mD at h;rcases hb with rfl|hb
 ·rcases hn with rfl|rfl|rfl|rfl|rfl|rfl|rfl<;>omega
 ·rcases hn with rfl|rfl|rfl|rfl|rfl|rfl|rfl<;>omega
theorem He {N:Nd}(hn:Pw N.len)(hd:N.au≤5)(hb:N.au=0∨8≤N.len)(hk:jX N)(hs:s≤3*N.len+8):rU N.kind N.len N.au+s/8≤7*N.each:=by
 unfold Nd.each;revert hk hb hn hd hs;unfold jX;generalize N.len=n;generalize N.au=d;intro hn hd hb hk hs
 rcases hk with h1|⟨h1,h2⟩|⟨h1,h2,h3⟩<;>rw[h1]<;>unfold rU mD<;>simp
 ·rcases hn with rfl|rfl|rfl|rfl|rfl|rfl|rfl<;>simp<;>omega
 ·rcases hb with rfl|hb<;>rcases hn with rfl|rfl|rfl|rfl|rfl|rfl|rfl<;>simp at* <;>omega
 ·rcases hn with rfl|rfl|rfl|rfl|rfl|rfl|rfl<;>simp at* <;>omega
theorem room_end {N:Nd}(hn:Pw N.len)(hd:N.au≤5)(hb:N.au=0∨8≤N.len)(hk:jX N)(hs:s≤8)(h:L+1≤rU N.kind N.len N.au+(N.each*N.many+N.len+s)/8):
  L≤mD N.each (if N.many=2 then N.au+1 else N.au):=by
 revert h;unfold Nd.each Nd.many;revert hk hb hn hd;unfold jX;generalize N.len=n;generalize N.au=d;intro hn hd hb hk h
 rcases hk with h1|⟨h1,h2⟩|⟨h1,h2,h3⟩<;>rw[h1]at h⊢<;>unfold rU mD at* <;>simp at h⊢
 ·rcases hn with rfl|rfl|rfl|rfl|rfl|rfl|rfl<;>simp at h⊢<;>omega
 ·rcases hb with rfl|hb<;>rcases hn with rfl|rfl|rfl|rfl|rfl|rfl|rfl<;>simp at* <;>omega
 ·rcases hn with rfl|rfl|rfl|rfl|rfl|rfl|rfl<;>simp at* <;>omega
end
def ze:bP:=⟨⟨0,0,0⟩,⟨0,0,0⟩⟩
def Nd.step (N:Nd):Nd:=match N.ph with
 | .idle=>N
 | .mO k=>{N with sl:=N.sl-1,ph:=if k+1=N.each*N.many then .iV (List.replicate N.many (dX N.each N.each)) 0 else .mO (k+1)}
 | .iV Ts next=>{N with sl:=N.sl-1,T:=takeN N.T next 8,ph:= .iV (eP N.many N.au (ze,Ts) (bW (N.T.gs.getD next []))).2 (next+1)}
structure Like (N N':Nd):Prop where
 pfx:N'.pfx=N.pfx
 au:N'.au=N.au
 kind:N'.kind=N.kind
 len:N'.len=N.len
 busy:N'.ph.busy=N.ph.busy
theorem Like.each {N N':Nd}(h:Like N N'):N'.each=N.each:=by unfold Nd.each;rw[h.kind,h.len]
theorem Like.many {N N':Nd}(h:Like N N'):N'.many=N.many:=by unfold Nd.many;rw[h.kind]
theorem Like.groups {N N':Nd}(h:Like N N'):N'.groups=N.groups:=by unfold Nd.groups;rw[h.busy,h.each,h.many,h.len]
theorem Like.kindOk {N N':Nd}(h:Like N N')(hk:jX N):jX N':=by unfold jX at*;rw[h.kind,h.len,h.au];exact hk
theorem Like.refl (N:Nd):Like N N:=⟨rfl,rfl,rfl,rfl,rfl⟩
theorem Like.trans {N N' N2:Nd}(h:Like N N')(k:Like N' N2):Like N N2:=⟨k.pfx.trans h.pfx,k.au.trans h.au,k.kind.trans h.kind,k.len.trans h.len,k.busy.trans h.busy⟩
theorem qP (N:Nd):Like N N.step:=by
 unfold Nd.step
 cases h:N.ph with
 |idle=>exact Like.refl N
 |mO k=>exact⟨rfl,rfl,rfl,rfl,by simp only;rw[h];split<;>rfl⟩
 |iV Ts next=>exact⟨rfl,rfl,rfl,rJ _ _ _,by rw[h];rfl⟩
theorem dV.fits {N:Nd}(h:dV H N){Ts:List aC}{next:Nat}(hp:N.ph= .iV Ts next)(hn:next<N.len)(x:bP):
  Fits N.many N.au Ts (bW (N.T.gs.getD next []))∧za N.many N.each N.au (eP N.many N.au (x,Ts) (bW (N.T.gs.getD next []))).2∧(dA (eP N.many N.au (x,Ts) (bW (N.T.gs.getD next []))).2).Perm (bW (N.T.gs.getD next [])++dA Ts)∧
   loads (eP N.many N.au (x,Ts) (bW (N.T.gs.getD next []))).2≤loads Ts+(bW (N.T.gs.getD next [])).length∧∃c,(eP N.many N.au (x,Ts) (bW (N.T.gs.getD next []))).1=x.add cV c:=by
 have bS:=h.ph;unfold kJ at bS;rw[hp]at bS;obtain⟨h1,h2,h3,h4,h5⟩:=bS;obtain⟨k1,k2,k3,k4,_⟩:=fT h.pw h1;obtain⟨t1,t2,t3⟩:=AQ h.tg hn;have hsl:=h.sl;have hB:=He h.pw h.deep h.big h1 (s:=N.each*N.many+next+N.sl) (by omega);have hlen:=t3.length_eq;rw[List.length_append]at hlen
 have adp:N.ents=dA Ts++aM N.T.gs:=by unfold Nd.ents;rw[hp];rfl
 have hpe:N.ents.Perm ((bW (N.T.gs.getD next [])++dA Ts)++aM (takeN N.T next 8).gs):=by
  rw[adp];refine(t3.append_left _).trans ?_;rw[←List.append_assoc];exact List.perm_append_comm.append_right _
 refine moves k2 hB _ Ts x h3 ?_ (fun e he=> ?_) (by omega)
 ·have:=(hpe.map ay.key).nodup_iff.1 h.keys;rw[List.map_append]at this;exact(List.nodup_append.1 this).1
 ·exact(h.hash e (hpe.mem_iff.2 (List.mem_append_left _ (List.mem_append_left _ he)))).1.h64
theorem Kn {N:Nd}(h:dV H N)(hl:1≤N.left):N.step.ents.Perm N.ents:=by
 cases hp:N.ph with
 |idle=>unfold Nd.left at hl;rw[hp]at hl;simp at hl
 |mO k=>
  have bS:=h.ph;unfold kJ at bS;rw[hp]at bS;unfold Nd.step Nd.ents;rw[hp];simp only;split
  ·rw[show zV (Phase.iV (List.replicate N.many (dX N.each N.each)) 0)=List.replicate N.many (dX N.each N.each)from rfl,(Kl (m:=N.many) (d:=N.au) (fT h.pw bS.1).1).2.1];exact .refl _
  ·exact .refl _
 |iV Ts next=>
  have hn:next<N.len:=by unfold Nd.left at hl;rw[hp]at hl;simp only at hl;omega
  obtain⟨_,_,h3,_⟩:=h.fits hp hn ze;obtain⟨_,_,t3⟩:=AQ h.tg hn;unfold Nd.step Nd.ents;rw[hp];show(dA (eP N.many N.au (ze,Ts) (bW (N.T.gs.getD next []))).2++aM (takeN N.T next 8).gs).Perm (dA Ts++aM N.T.gs);refine(h3.append_right _).trans (List.Perm.trans ?_ (t3.symm.append_left _));rw[←List.append_assoc];exact List.perm_append_comm.append_right _
theorem UQ {N:Nd}(h:dV H N)(hl:1≤N.left):N.step.left+1=N.left:=by
 have hL:=qP N;unfold Nd.left at hl⊢;rw[hL.len,hL.each,hL.many]
 cases hp:N.ph with
 |idle=>rw[hp]at hl;simp at hl
 |mO k=>
  have bS:=h.ph;unfold kJ at bS;rw[hp]at bS;obtain⟨_,hk,_⟩:=bS;by_cases h1:k+1=N.each*N.many
  ·have hP:N.step.ph= .iV (List.replicate N.many (dX N.each N.each)) 0:=by unfold Nd.step;rw[hp];simp only;rw[if_pos h1]
   rw[hP];show N.len-0+1=N.len+(N.each*N.many-k);omega
  ·have hP:N.step.ph= .mO (k+1):=by unfold Nd.step;rw[hp];simp only;rw[if_neg h1]
   rw[hP];show N.len+(N.each*N.many-(k+1))+1=N.len+(N.each*N.many-k);omega
 |iV Ts next=>
  rw[hp]at hl;unfold Nd.step;rw[hp];simp only at hl⊢;omega
theorem step_ok {N:Nd}(h:dV H N)(hl:1≤N.left):dV H N.step:=by
 have hL:=qP N;have hE:=Kn h hl
 have hsl:N.step.sl=N.sl-1:=by
  unfold Nd.step
  cases hp:N.ph with
  |idle=>unfold Nd.left at hl;rw[hp]at hl;simp at hl
  |_=>rfl
 refine⟨?_,by rw[hL.au];exact h.deep,by rw[hL.au,hL.len];exact h.big,by rw[hL.au,hL.pfx];exact h.pfx,by rw[hsl];have:=h.sl;omega,(hE.map ay.key).nodup_iff.2 h.keys,fun e he=>by rw[hL.au,hL.pfx];exact h.hash e (hE.mem_iff.1 he),by rw[hE.length_eq];exact h.few, ?_⟩
 ·cases hp:N.ph with
  |idle=>unfold Nd.left at hl;rw[hp]at hl;simp at hl
  |mO k=>
   have hT:N.step.T=N.T:=by unfold Nd.step;rw[hp]
   rw[hT];exact h.tg
  |iV Ts next=>
   have hn:next<N.len:=by unfold Nd.left at hl;rw[hp]at hl;simp only at hl;omega
   have hT:N.step.T=takeN N.T next 8:=by unfold Nd.step;rw[hp]
   rw[hT];exact(AQ h.tg hn).1
 ·have bS:=h.ph;have hs:=h.sl;unfold kJ at bS⊢;rw[hL.len,hL.each,hL.many,hL.kind,hL.au,hsl]
  cases hp:N.ph with
  |idle=>unfold Nd.left at hl;rw[hp]at hl;simp at hl
  |mO k=>
   rw[hp]at bS;obtain⟨h1,h2,h3,h4⟩:=bS
   have hT:N.step.T=N.T:=by unfold Nd.step;rw[hp]
   rw[hT];by_cases hk:k+1=N.each*N.many
   ·have hP:N.step.ph= .iV (List.replicate N.many (dX N.each N.each)) 0:=by unfold Nd.step;rw[hp];simp only;rw[if_pos hk]
    rw[hP];obtain⟨b1,b2,b3⟩:=Kl (m:=N.many) (n:=N.each) (d:=N.au) (fT h.pw h1).1;refine⟨hL.kindOk h1,Nat.zero_le _,b1,fun _ _ _ _=>Nat.zero_le _, ?_⟩;rw[b3,←hk];omega
   ·have hP:N.step.ph= .mO (k+1):=by unfold Nd.step;rw[hp];simp only;rw[if_neg hk]
    rw[hP];exact⟨hL.kindOk h1,by omega,by omega,by omega⟩
  |iV Ts next=>
   rw[hp]at bS
   have hn:next<N.len:=by unfold Nd.left at hl;rw[hp]at hl;simp only at hl;omega
   obtain⟨h1,h2,h3,h4,h5⟩:=bS;obtain⟨_,f2,_,f4,_⟩:=h.fits hp hn ze;obtain⟨_,t2,t3⟩:=AQ h.tg hn
   have hT:N.step.T=takeN N.T next 8:=by unfold Nd.step;rw[hp]
   have hP:N.step.ph= .iV (eP N.many N.au (ze,Ts) (bW (N.T.gs.getD next []))).2 (next+1):=by unfold Nd.step;rw[hp]
   rw[hT,hP];have hlen:=t3.length_eq;rw[List.length_append]at hlen;refine⟨hL.kindOk h1,by omega,f2,fun i s e he=> ?_,by omega⟩;obtain⟨a,b⟩:=(t2 i s e).1 he;have:=h4 i s e a;omega
end
section
variable {H : Nat → Nat} {add del l : List ay} {X Y : aC} {Ts : List aC} {gl key next : Nat} {e : ay}
def Nd.pR (N:Nd)(X:aC)(s:Nat):Nd:={N with T:=X,sl:=s}
def Nd.Nw (N:Nd)(Ts:List aC)(next j:Nat)(X:aC)(s:Nat):Nd:={N with ph:= .iV (Ts.set j X) next,sl:=s}
structure Wr (H:Nat→Nat)(del add:List ay)(N N':Nd):Prop where
 like:Like N N'
 left:N'.left=N.left
 G9:tu del add N.ents N'.ents
 ok:dV H N'
 sl:add.length≤del.length→N'.sl=N.sl
 ld:N.ph= .idle→load N'.T≤load N.T+(add.length-del.length)
structure uI (H:Nat→Nat)(N:Nd)(del add:List ay):Prop where
 hash:∀e∈add,jK H e∧dW e.hash N.au=N.pfx
 keys:∀rest,N.ents.Perm (del++rest)→((add++rest).map ay.key).Nodup
 few:N.ents.length+add.length≤192+del.length
 one:add.length≤del.length∨add.length=1∧del=[]∧N.sl=0
def mg (del add:List ay)(s:Nat):Nat:=if del.length<add.length then 8 else s
theorem Wr.of {N N':Nd}(h:dV H N)(ha:uI H N del add)(hL:Like N N')(hl:N'.left=N.left)(hc:tu del add N.ents N'.ents)(ht:TG N'.T)(hs:N'.sl=mg del add N.sl)(hld:N.ph= .idle→load N'.T≤load N.T+(add.length-del.length))(hp:kJ N'):Wr H del add N N':=by
 refine⟨hL,hl,hc,⟨ht,by rw[hL.au];exact h.deep,by rw[hL.au,hL.len];exact h.big,by rw[hL.au,hL.pfx];exact h.pfx, ?_, ?_,fun e he=> ?_, ?_,hp⟩,fun hh=>by rw[hs];unfold mg;rw[if_neg (by omega)],hld⟩
 ·rw[hs];unfold mg;have:=h.sl;split<;>omega
 ·obtain⟨r,h1,h2⟩:=hc;exact(h2.map ay.key).nodup_iff.2 (ha.keys r h1)
 ·rw[hL.au,hL.pfx];rcases hc.mem he with h1|h1
  ·exact ha.hash e h1
  ·exact h.hash e h1
 ·have:=hc.len;have:=ha.few;omega
theorem X9 {N:Nd}(h:dV H N)(ha:uI H N del add)(hc:AP del add N.T X)(hm:∀Ts next,N.ph= .iV Ts next→del≠[]∧add.length≤del.length):Wr H del add N (N.pR X (mg del add N.sl)):=by
 have hL:Like N (N.pR X (mg del add N.sl)):=⟨rfl,rfl,rfl,hc.len,rfl⟩;have hlen:=hc.G9.len;have hld:=hc.load_;have hs:=h.sl;have h1:=ha.one;refine Wr.of h ha hL ?_ ?_ hc.tg rfl (fun _=>hc.load_) ?_
 ·unfold Nd.left;rw[hL.len,hL.each,hL.many];rfl
 ·have:=hc.G9.wrap (dA (zV N.ph)) [];show tu del add (dA (zV N.ph)++aM N.T.gs) (dA (zV N.ph)++aM X.gs);simpa using this
 ·have bS:=h.ph;unfold kJ at bS⊢;rw[hL.len,hL.each,hL.many]
  show match N.ph with
   | .idle=>N.kind=0∧load X≤mD N.len N.au+mg del add N.sl/8
   | .mO k=>jX (N.pR X (mg del add N.sl))∧k<N.each*N.many∧load X≤mD N.len N.au+(k+mg del add N.sl)/8∧(aM X.gs).length+1≤rU N.kind N.len N.au+(k+mg del add N.sl)/8
   | .iV Ts next=>jX (N.pR X (mg del add N.sl))∧next≤N.len∧za N.many N.each N.au Ts∧(∀i s e,aH X.gs i s= .full e→next≤i)∧loads Ts+(aM X.gs).length+1≤rU N.kind N.len N.au+(N.each*N.many+next+mg del add N.sl)/8
  have hsk:(add.length≤del.length∧mg del add N.sl=N.sl)∨(add.length=1∧del.length=0∧N.sl=0∧mg del add N.sl=8):=by
   rcases h1 with h2|⟨h2,h3,h4⟩
   ·exact .inl ⟨h2,by unfold mg;rw[if_neg (by omega)]⟩
   ·exact .inr ⟨h2,by rw[h3];rfl,h4,by unfold mg;rw[if_pos (by rw[h3,h2];simp)]⟩
  cases hp:N.ph with
  |idle=>
   rw[hp]at bS;exact⟨bS.1,by have:=bS.2;omega⟩
  |mO k=>
   rw[hp]at bS;obtain⟨g1,g2,g3,g4⟩:=bS;exact⟨hL.kindOk g1,g2,by omega,by omega⟩
  |iV Ts next=>
   rw[hp]at bS;obtain⟨g1,g2,g3,g4,g5⟩:=bS
   obtain⟨m1,m2⟩:=hm Ts next hp
   refine⟨hL.kindOk g1,g2,g3,fun i s e he=> ?_,by omega⟩;rcases hc.at_ i s e he with h2|⟨e0,h2⟩
   ·exact absurd h2 m1
   ·exact g4 i s e0 h2
theorem ad5 {N:Nd}{j:Nat}(h:dV H N)(hp:N.ph= .iV Ts next)(hj:Ts[j]?=some Y)(ha:uI H N del add)(hc:AP del add Y X)(hsd:∀e∈add,dG N.many N.au e.hash=j):Wr H del add N (N.Nw Ts next j X (mg del add N.sl)):=by
 have hL:Like N (N.Nw Ts next j X (mg del add N.sl)):=⟨rfl,rfl,rfl,rfl,by rw[hp];rfl⟩;have hlen:=hc.G9.len;have hld:=hc.load_;have hs:=h.sl;have h1:=ha.one;have hls:=Kj hj X;refine Wr.of h ha hL ?_ ?_ h.tg rfl (fun hh=>by rw[hp]at hh;cases hh) ?_
 ·unfold Nd.left;rw[hp];rfl
 ·obtain⟨A,B,hA,hB⟩:=CK hj;have:=hc.G9.wrap A (B++aM N.T.gs);unfold Nd.ents;rw[hp];show tu del add (dA Ts++aM N.T.gs) (dA (Ts.set j X)++aM N.T.gs);rw[hA,hB];simpa using this
 ·have bS:=h.ph;unfold kJ at bS;rw[hp]at bS;obtain⟨g1,g2,g3,g4,g5⟩:=bS
  show jX _∧next≤N.len∧za N.many N.each N.au (Ts.set j X)∧(∀i s e,aH N.T.gs i s= .full e→next≤i)∧loads (Ts.set j X)+(aM N.T.gs).length+1≤rU N.kind N.len N.au+(N.each*N.many+next+mg del add N.sl)/8
  refine⟨hL.kindOk g1,g2,g3.ak hj hc hsd,g4, ?_⟩
  have hsk:(add.length≤del.length∧mg del add N.sl=N.sl)∨(add.length=1∧del.length=0∧N.sl=0∧mg del add N.sl=8):=by
   rcases h1 with h2|⟨h2,h3,h4⟩
   ·exact .inl ⟨h2,by unfold mg;rw[if_neg (by omega)]⟩
   ·exact .inr ⟨h2,by rw[h3];rfl,h4,by unfold mg;rw[if_pos (by rw[h3,h2];simp)]⟩
  omega
theorem Qu {N:Nd}(h:dV H N)(he:jK H e)(ht:dW e.hash N.au=N.pfx)(hk:∀x∈N.ents,x.key≠e.key)(hf:N.ents.length+1≤192)(hs:N.sl=0):uI H N [] [e]:=
 ⟨fun x hx=>by simp at hx;subst hx;exact⟨he,ht⟩,fun r hr=>by
  have h1:=(hr.map ay.key).nodup_iff.1 h.keys;rw[List.nil_append]at h1 hr;rw[List.singleton_append,List.map_cons,List.nodup_cons]
  exact⟨fun hh=>by obtain⟨x,h2,h3⟩:=List.mem_map.1 hh;exact hk x (hr.mem_iff.2 h2) h3,h1⟩,by simpa using hf,.inr ⟨rfl,rfl,hs⟩⟩
theorem Ya {N:Nd}(h:dV H N):uI H N [e] []:=
 ⟨fun x hx=>by simp at hx,fun r hr=>by
  have h1:=(hr.map ay.key).nodup_iff.1 h.keys;rw[List.singleton_append,List.map_cons,List.nodup_cons]at h1
  exact h1.2,by have:=h.few;simp;omega,.inl (by simp)⟩
theorem Ko {N:Nd}{v:Nat}(h:dV H N)(he:e∈N.ents)(hv:v<18446744073709551616):uI H N [e] [{e with val:=v}]:=
 ⟨fun x hx=>by simp at hx;subst hx;obtain⟨h1,h2⟩:=h.hash e he;exact⟨⟨h1.hash,h1.h64,h1.k64,hv⟩,h2⟩,fun r hr=>by
  have h1:=(hr.map ay.key).nodup_iff.1 h.keys
  simpa using h1,by have:=h.few;simp;omega,.inl (by simp)⟩
def Nd.start (N:Nd)(kind:Nat):Nd:={N with kind:=kind,sl:=8,ph:= .mO 0}
theorem Ny {N:Nd}{kind:Nat}(h:dV H N)(hi:N.ph= .idle)(hgl:gl≤5)(hk:jo N.T.live N.T.cK N.len N.au gl=kind)(h0:kind≠0):dV H (N.start kind)∧(N.start kind).ents=N.ents:=by
 have hE:(N.start kind).ents=N.ents:=by unfold Nd.ents Nd.start;rw[hi];rfl
 have bS:=h.ph;unfold kJ at bS;rw[hi]at bS;have hs:=h.sl;have hl:=h.tg.ok.live
 have hK:jX (N.start kind)∧(kind=1→2*N.len<(aM N.T.gs).length→N.len=64):=by
  unfold jo at hk;split at hk
  ·exact absurd hk.symm h0
  ·split at hk
   ·next h1=>subst hk;exact⟨.inl rfl,fun _ h2=>by omega⟩
   ·split at hk
    ·next h1=>subst hk;exact⟨.inr (.inr ⟨rfl,h1.1,by show N.au<5;omega⟩),fun hh=>by omega⟩
    ·split at hk
     ·next h1=>subst hk;exact⟨.inr (.inl ⟨rfl,h1⟩),fun hh=>by omega⟩
     ·next h1=>subst hk;exact⟨.inl rfl,fun _ _=>by have:=h.pw.le;omega⟩
 have hle:(aM N.T.gs).length≤load N.T:=by unfold load;omega
 have Nz:=h.few
 have hE2:N.ents.length=(aM N.T.gs).length:=by unfold Nd.ents;rw[hi];simp[zV,dA]
 have hkE:=fT (N:=N.start kind) h.pw hK.1;refine⟨⟨h.tg,h.deep,h.big,h.pfx,Nat.le_refl 8,by rw[hE];exact h.keys,by rw[hE];exact h.hash,by rw[hE];exact h.few, ?_⟩,hE⟩;show jX (N.start kind)∧0<(N.start kind).each*(N.start kind).many∧load N.T≤mD N.len N.au+(0+8)/8∧(aM N.T.gs).length+1≤rU kind N.len N.au+(0+8)/8;have hpos:=h.pw.pos;have hlen:(N.start kind).len=N.len:=rfl;refine⟨hK.1,by omega,by omega, ?_⟩;unfold rU;by_cases h1:kind=1
 ·rw[if_pos h1];have:=hK.2 h1;have h64:=h.pw.le;by_cases h2:N.len<64
  ·rw[if_pos h2];omega
  ·rw[if_neg h2];omega
 ·rw[if_neg h1];omega
theorem aaR {N:Nd}(h:dV H N)(hi:N.ph= .idle)(hk:jo N.T.live N.T.cK N.len N.au gl=0):dV H {N with sl:=0}:=by
 have bS:=h.ph;unfold kJ at bS;rw[hi]at bS;have hl:=h.tg.RY
 have hn:mM N.T.live N.T.cK N.len=false:=by
  unfold jo at hk;split at hk
  ·assumption
  ·split at hk
   ·cases hk
   ·split at hk
    ·cases hk
    ·split at hk<;>cases hk
 unfold mM at hn;simp only[Bool.or_eq_false_iff,decide_eq_false_iff_not]at hn;refine⟨h.tg,h.deep,h.big,h.pfx,Nat.zero_le _,h.keys,h.hash,h.few, ?_⟩;unfold kJ
 show match N.ph with
  | .idle=>N.kind=0∧load N.T≤mD N.len N.au+0/8
  | .mO k=>_
  | .iV Ts next=>_
 rw[hi];refine⟨bS.1, ?_⟩;unfold mD;have:=h.pw.pos;omega
theorem ended {N:Nd}(h:dV H N)(hb:N.ph.busy=true)(hl:N.left=0):∃Ts,N.ph= .iV Ts N.len∧aM N.T.gs=[]:=by
 have bS:=h.ph;unfold kJ at bS;have hpos:=h.pw.pos;unfold Nd.left at hl
 cases hp:N.ph with
 |idle=>rw[hp]at hb;cases hb
 |mO k=>rw[hp]at hl;simp only at hl;omega
 |iV Ts next=>
  rw[hp]at hl bS;simp only at hl;obtain⟨h1,h2,h3,h4,h5⟩:=bS
  obtain rfl:next=N.len:=by omega
  refine⟨Ts,rfl,List.eq_nil_iff_forall_not_mem.2 fun e he=> ?_⟩;obtain⟨i,s,hs⟩:=qC.1 he;have:=h4 i s e hs;have:=(kg (gs:=N.T.gs) (i:=i) (s:=s) (by rw[hs];exact fun h=>by cases h)).1;unfold Nd.len at*;omega
theorem Yb {h d:Nat}(hd:d≤5):dW h (d+1)=2*dW h d+uz h d:=by
 unfold dW uz
 have h1:64-(d+1)=63-d:=by omega
 have h2:(2:Nat)^(64-d)=2^(63-d)*2:=by rw[←Nat.pow_succ];congr 1;omega
 rw[h1,h2,←Nat.div_div_eq_div_mul];omega
theorem aaS {N:Nd}(h:dV H N)(hp:N.ph= .iV [X] N.len)(hT:aM N.T.gs=[]):dV H ⟨N.pfx,N.au,0,0,X,.idle⟩∧(Nd.mk N.pfx N.au 0 0 X .idle).ents=N.ents∧X.gs.length=N.each∧N.many=1:=by
 have bS:=h.ph;unfold kJ at bS;rw[hp]at bS;obtain⟨h1,h2,h3,h4,h5⟩:=bS;obtain⟨k1,k2,k3,k4,k5⟩:=fT h.pw h1
 have hm:N.many=1:=by have:=h3.len;simpa using this.symm
 obtain⟨x1,x2⟩:=h3.tg 0 X rfl
 have hE:(Nd.mk N.pfx N.au 0 0 X .idle).ents=N.ents:=by unfold Nd.ents;rw[hp,hT];simp[zV,dA]
 have hr:=room_end (L:=load X) h.pw h.deep h.big h1 h.sl (by rw[hT]at h5;simpa[loads]using h5);rw[hm,if_neg (by omega)]at hr;refine⟨⟨x1,h.deep, ?_,h.pfx,Nat.zero_le _,by rw[hE];exact h.keys,by rw[hE];exact h.hash,by rw[hE];exact h.few,rfl, ?_⟩,hE,x2,hm⟩
 ·rcases h.big with hb|hb
  ·exact .inl hb
  ·right;show 8≤X.gs.length;rw[x2,←Nat.mul_one N.each,←hm];omega
 ·show load X≤mD X.gs.length N.au+0/8;rw[x2];omega
theorem aaT {N:Nd}(h:dV H N)(hp:N.ph= .iV [X,Y] N.len)(hT:aM N.T.gs=[]):dV H ⟨2*N.pfx,N.au+1,0,0,X,.idle⟩∧dV H ⟨2*N.pfx+1,N.au+1,0,0,Y,.idle⟩∧
  (Nd.mk (2*N.pfx) (N.au+1) 0 0 X .idle).ents++(Nd.mk (2*N.pfx+1) (N.au+1) 0 0 Y .idle).ents=N.ents∧X.gs.length=N.each∧Y.gs.length=N.each∧N.many=2∧N.au<5:=by
 have bS:=h.ph;unfold kJ at bS;rw[hp]at bS;obtain⟨h1,h2,h3,h4,h5⟩:=bS;obtain⟨k1,k2,k3,k4,k5⟩:=fT h.pw h1
 have hm:N.many=2:=by have:=h3.len;simpa using this.symm
 have hk3:N.kind=3∧N.each=N.len:=by omega
 have hd5:8≤N.len∧N.au<5:=by rcases h1 with h6|h6|h6<;>omega
 obtain⟨x1,x2⟩:=h3.tg 0 X rfl;obtain⟨y1,y2⟩:=h3.tg 1 Y rfl
 have hE:(Nd.mk (2*N.pfx) (N.au+1) 0 0 X .idle).ents++(Nd.mk (2*N.pfx+1) (N.au+1) 0 0 Y .idle).ents=N.ents:=by unfold Nd.ents;rw[hp,hT];simp[zV,dA]
 have hl:loads [X,Y]=load X+load Y:=by simp[loads]
 rw[hT,hl,List.length_nil]at h5;have hr1:=room_end (L:=load X) h.pw h.deep h.big h1 h.sl (by omega);have hr2:=room_end (L:=load Y) h.pw h.deep h.big h1 h.sl (by omega);rw[if_pos hm]at hr1 hr2;have hkeys:=h.keys;rw[←hE,List.map_append]at hkeys;have hn:=List.nodup_append.1 hkeys;have Nz:=h.few;rw[←hE,List.length_append]at Nz;have hpf:=h.pfx;have hpw:2^(N.au+1)=2^N.au*2:=Nat.pow_succ ..
 have hside:∀(j:Nat) (Z:aC) (e:ay),[X,Y][j]?=some Z→e∈aM Z.gs→jK H e∧dW e.hash (N.au+1)=2*N.pfx+j:=fun j Z e hZ he=>by
  have h6:=h3.side j Z e hZ he;obtain⟨h7,h8⟩:=h.hash e (by unfold Nd.ents;rw[hp];exact List.mem_append_left _ (nL.2 ⟨j,Z,hZ,he⟩));refine⟨h7, ?_⟩;rw[Yb (by omega),h8];unfold dG at h6;rw[if_neg (by omega)]at h6;omega
 refine⟨⟨x1,by show N.au+1≤5;omega,.inr (by show 8≤X.gs.length;omega),by show 2*N.pfx<2^(N.au+1);omega,Nat.zero_le _,hn.1,fun e he=>hside 0 X e rfl (by simpa[Nd.ents,zV,dA]using he),by omega,rfl,by show load X≤mD X.gs.length (N.au+1)+0/8;rw[x2];omega⟩,
  ⟨y1,by show N.au+1≤5;omega,.inr (by show 8≤Y.gs.length;omega),by show 2*N.pfx+1<2^(N.au+1);omega,Nat.zero_le _,hn.2.1,fun e he=>hside 1 Y e rfl (by simpa[Nd.ents,zV,dA]using he),by omega,rfl,by show load Y≤mD Y.gs.length (N.au+1)+0/8;rw[y2];omega⟩,hE,x2,y2,hm,hd5.2⟩
theorem UR {N:Nd}(h:dV H N)(hp:N.ph= .iV Ts next):∃Tx,Ts[dG N.many N.au (H key)]?=some Tx∧
  ((∃e∈N.ents,e.key=key∧e.hash=H key∧((e∈aM Tx.gs∧∃i s,(aJ Tx.gs key (H key)).1=some (i,s)∧aH Tx.gs i s= .full e)∨((aJ Tx.gs key (H key)).1=none∧∃i s,(aJ N.T.gs key (H key)).1=some (i,s)∧aH N.T.gs i s= .full e)))∨
   ((∀e∈N.ents,e.key≠key)∧(aJ Tx.gs key (H key)).1=none∧(aJ N.T.gs key (H key)).1=none)):=by
 have bS:=h.ph;unfold kJ at bS;rw[hp]at bS;obtain⟨h1,h2,h3,h4,h5⟩:=bS;obtain⟨k1,k2,k3,k4,k5⟩:=fT h.pw h1;obtain⟨Tx,hT⟩:∃Tx,Ts[dG N.many N.au (H key)]?=some Tx:=⟨_,List.getElem?_eq_getElem (by rw[h3.len];exact Qt k2)⟩
 have hE:N.ents=dA Ts++aM N.T.gs:=by unfold Nd.ents;rw[hp];rfl
 refine⟨Tx,hT, ?_⟩;have hnk:=h.keys;rw[hE,List.map_append]at hnk;by_cases hex:∃e∈N.ents,e.key=key
 ·obtain⟨e,he,hk⟩:=hex;have hh:=(h.hash e he).1.hash;rw[hk]at hh;refine .inl ⟨e,he,hk,hh, ?_⟩;rw[hE]at he;rcases List.mem_append.1 he with he|he
  ·obtain⟨j,T',hj,ZV⟩:=nL.1 he;have hs:=h3.side j T' e hj ZV;rw[hh]at hs;rw[hs]at hT;rw[hT]at hj;cases hj;obtain⟨i,s,a,b⟩:=Jb (h3.tg j Tx hT).1 ZV;rw[hk,hh]at a;exact .inl ⟨ZV,i,s,a,b⟩
  ·obtain⟨i,s,a,b⟩:=Jb h.tg he;rw[hk,hh]at a;refine .inr ⟨qD fun x hx hxk=> ?_,i,s,a,b⟩;exact(List.nodup_append.1 hnk).2.2 x.key (List.mem_map_of_mem (nL.2 ⟨_,_,hT,hx⟩)) e.key (List.mem_map_of_mem he) (hxk.trans hk.symm)
 ·have hne:∀e∈N.ents,e.key≠key:=fun e he hk=>hex ⟨e,he,hk⟩;exact .inr ⟨hne,qD fun x hx=>hne x (by rw[hE];exact List.mem_append_left _ (nL.2 ⟨_,_,hT,hx⟩)),qD fun x hx=>hne x (by rw[hE];exact List.mem_append_right _ hx)⟩
theorem Kq {N:Nd}(h:dV H N)(hp:zV N.ph=[]):(∃e∈N.ents,e.key=key∧e.hash=H key∧∃i s,(aJ N.T.gs key (H key)).1=some (i,s)∧aH N.T.gs i s= .full e)∨((∀e∈N.ents,e.key≠key)∧(aJ N.T.gs key (H key)).1=none):=by
 have hE:N.ents=aM N.T.gs:=by unfold Nd.ents;rw[hp];rfl
 by_cases hex:∃e∈N.ents,e.key=key
 ·obtain⟨e,he,hk⟩:=hex;have hh:=(h.hash e he).1.hash;rw[hk]at hh;obtain⟨i,s,a,b⟩:=Jb h.tg (hE▸he);rw[hk,hh]at a;exact .inl ⟨e,he,hk,hh,i,s,a,b⟩
 ·have hne:∀e∈N.ents,e.key≠key:=fun e he hk=>hex ⟨e,he,hk⟩;exact .inr ⟨hne,qD fun x hx=>hne x (by rw[hE];exact hx)⟩
def look (l:List ay)(key:Nat):Option ay:=l.find? fun e=>e.key==key
theorem je (hn:(l.map ay.key).Nodup)(he:e∈l):look l e.key=some e:=by
 unfold look
 cases hf:l.find? (fun x=>x.key==e.key)with
 |none=>exact absurd (List.find?_eq_none.1 hf e he) (by simp)
 |some x=>
  have h1:=List.mem_of_find?_eq_some hf;have h2:=List.find?_some hf;simp at h2;congr 1;obtain⟨i,hi,rfl⟩:=List.getElem_of_mem h1;obtain⟨j,hj,rfl⟩:=List.getElem_of_mem he
  have h3:(l.map ay.key)[i]'(by simpa using hi)=(l.map ay.key)[j]'(by simpa using hj):=by simpa using h2
  have h4:=(List.getElem_inj hn).1 h3;subst h4;rfl
theorem CO (h:∀e∈l,e.key≠key):look l key=none:=by
 unfold look;rw[List.find?_eq_none];intro e he;simpa using h e he
theorem oN (h:look l key=some e):e∈l∧e.key=key:=by
 unfold look at h;exact⟨List.mem_of_find?_eq_some h,by simpa using List.find?_some h⟩
theorem CP {l':List ay}(hp:l.Perm l')(hn:(l.map ay.key).Nodup)(key:Nat):look l key=look l' key:=by
 cases h:look l' key with
 |none=>
  refine CO fun e he hk=> ?_;have:=je ((hp.map ay.key).nodup_iff.1 hn) (hp.mem_iff.1 he);rw[hk,h]at this;cases this
 |some e=>
  obtain⟨h1,h2⟩:=oN h;rw[←h2];exact je hn (hp.mem_iff.2 h1)
end
end Go.Proofs.YtkkibocdfijnhaaGreatDoor
