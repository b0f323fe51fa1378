/- A node as it is seen from above: its entries, its job, the room it has; what a step leaves of that. No statement of the claim. -/
import Derived.Test.YtjfgpnapccdnlaaGreatDoorCoBY
import Derived.Test.YtjfgpnapccdnlaaGreatDoorKit2
namespace Go.Proofs.YtjfgpnapccdnlaaGreatDoor
set_option maxHeartbeats 2000000
open Go dF
section
variable {H : Nat → Nat}
inductive Phase where
 |idle
 |nN (k:Nat)
 |iX (Ts:List aD) (next:Nat)
structure Nd where
 pfx:Nat
 au:Nat
 kind:Nat
 sl:Nat
 T:aD
 ph:Phase
def AJ:Phase→List aD
 | .iX Ts _=>Ts
 |_=> []
def Phase.busy:Phase→Bool
 | .idle=>false
 |_=>true
def Nd.len (N:Nd):Nat:=N.T.gs.length
def Nd.many (N:Nd):Nat:=if N.kind=3 then 2 else 1
def Nd.each (N:Nd):Nat:=if N.kind=2 then 2*N.len else N.len
def Nd.ents (N:Nd):List ay:=bX (AJ N.ph)++aI N.T.gs
def Nd.left (N:Nd):Nat:=match N.ph with
 | .idle=>0
 | .nN k=>N.len+(N.each*N.many-k)
 | .iX _ next=>N.len-next
def Nd.groups (N:Nd):Nat:=if N.ph.busy then N.len+N.each*N.many else N.len
def mh (n d:Nat):Nat:=4*n-1+d*(3*n/8+1)
def sO (kind n d:Nat):Nat:=if kind=1 then(if n<64 then 2*n else 192)else mh n d+1
def jU (N:Nd):Prop:=N.kind=1∨(N.kind=2∧N.len<64)∨(N.kind=3∧8≤N.len∧N.au<5)
def lT (N:Nd):Prop:=match N.ph with
 | .idle=>N.kind=0∧load N.T≤mh N.len N.au+N.sl/8
 | .nN k=>jU N∧k<N.each*N.many∧load N.T≤mh N.len N.au+(k+N.sl)/8∧(aI N.T.gs).length+1≤sO N.kind N.len N.au+(k+N.sl)/8
 | .iX Ts next=>jU N∧next≤N.len∧zN N.many N.each N.au Ts∧(∀i s e,aG N.T.gs i s= .full e→next≤i)∧loads Ts+(aI N.T.gs).length+1≤sO N.kind N.len N.au+(N.each*N.many+next+N.sl)/8
structure nu (H:Nat→Nat)(e:ay):Prop where
 hash:e.hash=H e.key
 h64:e.hash<18446744073709551616
 k64:e.key<18446744073709551616
 v64:e.val<18446744073709551616
structure eu (H:Nat→Nat)(N:Nd):Prop where
 tg:TG N.T
 deep:N.au≤5
 big:N.au=0∨8≤N.len
 pfx:N.pfx<2^N.au
 sl:N.sl≤8
 keys:(N.ents.map ay.key).Nodup
 hash:∀e∈N.ents,nu H e∧dZ e.hash N.au=N.pfx
 few:N.ents.length≤192
 ph:lT N
theorem eu.pw {N:Nd}(h:eu H N):Pw N.len:=h.tg.ok.pow
theorem iY {N:Nd}(h:Pw N.len)(hk:jU N):Pw N.each∧(N.many=1∨N.many=2)∧N.each*N.many≤2*N.len∧N.len≤N.each*N.many∧
  (N.kind=1∧N.each=N.len∧N.many=1∨N.kind=2∧N.each=2*N.len∧N.many=1∨N.kind=3∧N.each=N.len∧N.many=2):=by
 unfold Nd.each Nd.many
 rcases hk with h1|⟨h1,h2⟩|⟨h1,h2,h3⟩<;>rw[h1]<;>simp
 ·exact⟨h,by omega⟩
 ·refine⟨?_,by omega⟩;unfold Pw at h⊢;omega
 ·exact⟨h,by omega⟩
section
variable {n d k s L l kind : Nat}
theorem Pm (hn:Pw n)(hd:d≤5)(hb:d=0∨8≤n)(hk:k≤2*n)(h:L≤mh n d+k/8):L+1≤7*n:=by
 unfold mh at h;rcases hb with rfl|hb
 ·rcases hn with rfl|rfl|rfl|rfl|rfl|rfl|rfl<;>omega
 ·rcases hn with rfl|rfl|rfl|rfl|rfl|rfl|rfl<;>omega
theorem Je {N:Nd}(hn:Pw N.len)(hd:N.au≤5)(hb:N.au=0∨8≤N.len)(hk:jU N)(hs:s≤3*N.len+8):sO N.kind N.len N.au+s/8≤7*N.each:=by
 unfold Nd.each;revert hk hb hn hd hs;unfold jU;generalize N.len=n;generalize N.au=d;intro hn hd hb hk hs
 rcases hk with h1|⟨h1,h2⟩|⟨h1,h2,h3⟩<;>rw[h1]<;>unfold sO mh<;>simp
 ·rcases hn with rfl|rfl|rfl|rfl|rfl|rfl|rfl<;>simp<;>omega
 ·rcases hb with rfl|hb<;>rcases hn with rfl|rfl|rfl|rfl|rfl|rfl|rfl<;>simp at* <;>omega
 ·rcases hn with rfl|rfl|rfl|rfl|rfl|rfl|rfl<;>simp at* <;>omega
theorem room_end {N:Nd}(hn:Pw N.len)(hd:N.au≤5)(hb:N.au=0∨8≤N.len)(hk:jU N)(hs:s≤8)(h:L+1≤sO N.kind N.len N.au+(N.each*N.many+N.len+s)/8):
  L≤mh N.each (if N.many=2 then N.au+1 else N.au):=by
 revert h;unfold Nd.each Nd.many;revert hk hb hn hd;unfold jU;generalize N.len=n;generalize N.au=d;intro hn hd hb hk h
 rcases hk with h1|⟨h1,h2⟩|⟨h1,h2,h3⟩<;>rw[h1]at h⊢<;>unfold sO mh at* <;>simp at h⊢
 ·rcases hn with rfl|rfl|rfl|rfl|rfl|rfl|rfl<;>simp at h⊢<;>omega
 ·rcases hb with rfl|hb<;>rcases hn with rfl|rfl|rfl|rfl|rfl|rfl|rfl<;>simp at* <;>omega
 ·rcases hn with rfl|rfl|rfl|rfl|rfl|rfl|rfl<;>simp at* <;>omega
end
def zO:bJ:=⟨⟨0,0,0⟩,⟨0,0,0⟩⟩
def Nd.step (N:Nd):Nd:=match N.ph with
 | .idle=>N
 | .nN k=>{N with sl:=N.sl-1,ph:=if k+1=N.each*N.many then .iX (List.replicate N.many (dM N.each N.each)) 0 else .nN (k+1)}
 | .iX Ts next=>{N with sl:=N.sl-1,T:=takeN N.T next 8,ph:= .iX (eD N.many N.au (zO,Ts) (bI (N.T.gs.getD next []))).2 (next+1)}
structure Like (N N':Nd):Prop where
 pfx:N'.pfx=N.pfx
 au:N'.au=N.au
 kind:N'.kind=N.kind
 len:N'.len=N.len
 busy:N'.ph.busy=N.ph.busy
theorem Like.each {N N':Nd}(h:Like N N'):N'.each=N.each:=by unfold Nd.each;rw[h.kind,h.len]
theorem Like.many {N N':Nd}(h:Like N N'):N'.many=N.many:=by unfold Nd.many;rw[h.kind]
theorem Like.groups {N N':Nd}(h:Like N N'):N'.groups=N.groups:=by unfold Nd.groups;rw[h.busy,h.each,h.many,h.len]
theorem Like.kindOk {N N':Nd}(h:Like N N')(hk:jU N):jU N':=by unfold jU at*;rw[h.kind,h.len,h.au];exact hk
theorem Like.refl (N:Nd):Like N N:=⟨rfl,rfl,rfl,rfl,rfl⟩
theorem Like.trans {N N' N2:Nd}(h:Like N N')(k:Like N' N2):Like N N2:=⟨k.pfx.trans h.pfx,k.au.trans h.au,k.kind.trans h.kind,k.len.trans h.len,k.busy.trans h.busy⟩
theorem rM (N:Nd):Like N N.step:=by
 unfold Nd.step
 cases h:N.ph with
 |idle=>exact Like.refl N
 |nN k=>exact⟨rfl,rfl,rfl,rfl,by simp only;rw[h];split<;>rfl⟩
 |iX Ts next=>exact⟨rfl,rfl,rfl,sG _ _ _,by rw[h];rfl⟩
theorem eu.fits {N:Nd}(h:eu H N){Ts:List aD}{next:Nat}(hp:N.ph= .iX Ts next)(hn:next<N.len)(x:bJ):
  Fits N.many N.au Ts (bI (N.T.gs.getD next []))∧zN N.many N.each N.au (eD N.many N.au (x,Ts) (bI (N.T.gs.getD next []))).2∧(bX (eD N.many N.au (x,Ts) (bI (N.T.gs.getD next []))).2).Perm (bI (N.T.gs.getD next [])++bX Ts)∧
   loads (eD N.many N.au (x,Ts) (bI (N.T.gs.getD next []))).2≤loads Ts+(bI (N.T.gs.getD next [])).length∧∃c,(eD N.many N.au (x,Ts) (bI (N.T.gs.getD next []))).1=x.add cV c:=by
 have bZ:=h.ph;unfold lT at bZ;rw[hp]at bZ;obtain⟨h1,h2,h3,h4,h5⟩:=bZ;obtain⟨k1,k2,k3,k4,_⟩:=iY h.pw h1;obtain⟨t1,t2,t3⟩:=BM h.tg hn;have hsl:=h.sl;have hB:=Je h.pw h.deep h.big h1 (s:=N.each*N.many+next+N.sl) (by omega);have hlen:=t3.length_eq;rw[List.length_append]at hlen
 have aew:N.ents=bX Ts++aI N.T.gs:=by unfold Nd.ents;rw[hp];rfl
 have hpe:N.ents.Perm ((bI (N.T.gs.getD next [])++bX Ts)++aI (takeN N.T next 8).gs):=by
  rw[aew];refine(t3.append_left _).trans ?_;rw[←List.append_assoc];exact List.perm_append_comm.append_right _
 refine moves k2 hB _ Ts x h3 ?_ (fun e he=> ?_) (by omega)
 ·have:=(hpe.map ay.key).nodup_iff.1 h.keys;rw[List.map_append]at this;exact(List.nodup_append.1 this).1
 ·exact(h.hash e (hpe.mem_iff.2 (List.mem_append_left _ (List.mem_append_left _ he)))).1.h64
theorem LA {N:Nd}(h:eu H N)(hl:1≤N.left):N.step.ents.Perm N.ents:=by
 cases hp:N.ph with
 |idle=>unfold Nd.left at hl;rw[hp]at hl;simp at hl
 |nN k=>
  have bZ:=h.ph;unfold lT at bZ;rw[hp]at bZ;unfold Nd.step Nd.ents;rw[hp];simp only;split
  ·rw[show AJ (Phase.iX (List.replicate N.many (dM N.each N.each)) 0)=List.replicate N.many (dM N.each N.each)from rfl,(Lv (m:=N.many) (d:=N.au) (iY h.pw bZ.1).1).2.1];exact .refl _
  ·exact .refl _
 |iX Ts next=>
  have hn:next<N.len:=by unfold Nd.left at hl;rw[hp]at hl;simp only at hl;omega
  obtain⟨_,_,h3,_⟩:=h.fits hp hn zO;obtain⟨_,_,t3⟩:=BM h.tg hn;unfold Nd.step Nd.ents;rw[hp];show(bX (eD N.many N.au (zO,Ts) (bI (N.T.gs.getD next []))).2++aI (takeN N.T next 8).gs).Perm (bX Ts++aI N.T.gs);refine(h3.append_right _).trans (List.Perm.trans ?_ (t3.symm.append_left _));rw[←List.append_assoc];exact List.perm_append_comm.append_right _
theorem Xf {N:Nd}(h:eu H N)(hl:1≤N.left):N.step.left+1=N.left:=by
 have hL:=rM N;unfold Nd.left at hl⊢;rw[hL.len,hL.each,hL.many]
 cases hp:N.ph with
 |idle=>rw[hp]at hl;simp at hl
 |nN k=>
  have bZ:=h.ph;unfold lT at bZ;rw[hp]at bZ;obtain⟨_,hk,_⟩:=bZ;by_cases h1:k+1=N.each*N.many
  ·have hP:N.step.ph= .iX (List.replicate N.many (dM N.each N.each)) 0:=by unfold Nd.step;rw[hp];simp only;rw[if_pos h1]
   rw[hP];show N.len-0+1=N.len+(N.each*N.many-k);omega
  ·have hP:N.step.ph= .nN (k+1):=by unfold Nd.step;rw[hp];simp only;rw[if_neg h1]
   rw[hP];show N.len+(N.each*N.many-(k+1))+1=N.len+(N.each*N.many-k);omega
 |iX Ts next=>
  rw[hp]at hl;unfold Nd.step;rw[hp];simp only at hl⊢;omega
theorem step_ok {N:Nd}(h:eu H N)(hl:1≤N.left):eu H N.step:=by
 have hL:=rM N;have hE:=LA h hl
 have hsl:N.step.sl=N.sl-1:=by
  unfold Nd.step
  cases hp:N.ph with
  |idle=>unfold Nd.left at hl;rw[hp]at hl;simp at hl
  |_=>rfl
 refine⟨?_,by rw[hL.au];exact h.deep,by rw[hL.au,hL.len];exact h.big,by rw[hL.au,hL.pfx];exact h.pfx,by rw[hsl];have:=h.sl;omega,(hE.map ay.key).nodup_iff.2 h.keys,fun e he=>by rw[hL.au,hL.pfx];exact h.hash e (hE.mem_iff.1 he),by rw[hE.length_eq];exact h.few, ?_⟩
 ·cases hp:N.ph with
  |idle=>unfold Nd.left at hl;rw[hp]at hl;simp at hl
  |nN k=>
   have hT:N.step.T=N.T:=by unfold Nd.step;rw[hp]
   rw[hT];exact h.tg
  |iX Ts next=>
   have hn:next<N.len:=by unfold Nd.left at hl;rw[hp]at hl;simp only at hl;omega
   have hT:N.step.T=takeN N.T next 8:=by unfold Nd.step;rw[hp]
   rw[hT];exact(BM h.tg hn).1
 ·have bZ:=h.ph;have hs:=h.sl;unfold lT at bZ⊢;rw[hL.len,hL.each,hL.many,hL.kind,hL.au,hsl]
  cases hp:N.ph with
  |idle=>unfold Nd.left at hl;rw[hp]at hl;simp at hl
  |nN k=>
   rw[hp]at bZ;obtain⟨h1,h2,h3,h4⟩:=bZ
   have hT:N.step.T=N.T:=by unfold Nd.step;rw[hp]
   rw[hT];by_cases hk:k+1=N.each*N.many
   ·have hP:N.step.ph= .iX (List.replicate N.many (dM N.each N.each)) 0:=by unfold Nd.step;rw[hp];simp only;rw[if_pos hk]
    rw[hP];obtain⟨b1,b2,b3⟩:=Lv (m:=N.many) (n:=N.each) (d:=N.au) (iY h.pw h1).1;refine⟨hL.kindOk h1,Nat.zero_le _,b1,fun _ _ _ _=>Nat.zero_le _, ?_⟩;rw[b3,←hk];omega
   ·have hP:N.step.ph= .nN (k+1):=by unfold Nd.step;rw[hp];simp only;rw[if_neg hk]
    rw[hP];exact⟨hL.kindOk h1,by omega,by omega,by omega⟩
  |iX Ts next=>
   rw[hp]at bZ
   have hn:next<N.len:=by unfold Nd.left at hl;rw[hp]at hl;simp only at hl;omega
   obtain⟨h1,h2,h3,h4,h5⟩:=bZ;obtain⟨_,f2,_,f4,_⟩:=h.fits hp hn zO;obtain⟨_,t2,t3⟩:=BM h.tg hn
   have hT:N.step.T=takeN N.T next 8:=by unfold Nd.step;rw[hp]
   have hP:N.step.ph= .iX (eD N.many N.au (zO,Ts) (bI (N.T.gs.getD next []))).2 (next+1):=by unfold Nd.step;rw[hp]
   rw[hT,hP];have hlen:=t3.length_eq;rw[List.length_append]at hlen;refine⟨hL.kindOk h1,by omega,f2,fun i s e he=> ?_,by omega⟩;obtain⟨a,b⟩:=(t2 i s e).1 he;have:=h4 i s e a;omega
end
section
variable {H : Nat → Nat} {add del l : List ay} {X Y : aD} {Ts : List aD} {gl key next : Nat} {e : ay}
def Nd.ql (N:Nd)(X:aD)(s:Nat):Nd:={N with T:=X,sl:=s}
def Nd.Pn (N:Nd)(Ts:List aD)(next j:Nat)(X:aD)(s:Nat):Nd:={N with ph:= .iX (Ts.set j X) next,sl:=s}
structure Wr (H:Nat→Nat)(del add:List ay)(N N':Nd):Prop where
 like:Like N N'
 left:N'.left=N.left
 Jd:uf del add N.ents N'.ents
 ok:eu H N'
 sl:add.length≤del.length→N'.sl=N.sl
 ld:N.ph= .idle→load N'.T≤load N.T+(add.length-del.length)
structure wV (H:Nat→Nat)(N:Nd)(del add:List ay):Prop where
 hash:∀e∈add,nu H e∧dZ e.hash N.au=N.pfx
 keys:∀rest,N.ents.Perm (del++rest)→((add++rest).map ay.key).Nodup
 few:N.ents.length+add.length≤192+del.length
 one:add.length≤del.length∨add.length=1∧del=[]∧N.sl=0
def l7 (del add:List ay)(s:Nat):Nat:=if del.length<add.length then 8 else s
theorem Wr.of {N N':Nd}(h:eu H N)(ha:wV H N del add)(hL:Like N N')(hl:N'.left=N.left)(hc:uf del add N.ents N'.ents)(ht:TG N'.T)(hs:N'.sl=l7 del add N.sl)(hld:N.ph= .idle→load N'.T≤load N.T+(add.length-del.length))(hp:lT N'):Wr H del add N N':=by
 refine⟨hL,hl,hc,⟨ht,by rw[hL.au];exact h.deep,by rw[hL.au,hL.len];exact h.big,by rw[hL.au,hL.pfx];exact h.pfx, ?_, ?_,fun e he=> ?_, ?_,hp⟩,fun hh=>by rw[hs];unfold l7;rw[if_neg (by omega)],hld⟩
 ·rw[hs];unfold l7;have:=h.sl;split<;>omega
 ·obtain⟨r,h1,h2⟩:=hc;exact(h2.map ay.key).nodup_iff.2 (ha.keys r h1)
 ·rw[hL.au,hL.pfx];rcases hc.mem he with h1|h1
  ·exact ha.hash e h1
  ·exact h.hash e h1
 ·have:=hc.len;have:=ha.few;omega
theorem aah {N:Nd}(h:eu H N)(ha:wV H N del add)(hc:BL del add N.T X)(hm:∀Ts next,N.ph= .iX Ts next→del≠[]∧add.length≤del.length):Wr H del add N (N.ql X (l7 del add N.sl)):=by
 have hL:Like N (N.ql X (l7 del add N.sl)):=⟨rfl,rfl,rfl,hc.len,rfl⟩;have hlen:=hc.Jd.len;have hld:=hc.load_;have hs:=h.sl;have h1:=ha.one;refine Wr.of h ha hL ?_ ?_ hc.tg rfl (fun _=>hc.load_) ?_
 ·unfold Nd.left;rw[hL.len,hL.each,hL.many];rfl
 ·have:=hc.Jd.wrap (bX (AJ N.ph)) [];show uf del add (bX (AJ N.ph)++aI N.T.gs) (bX (AJ N.ph)++aI X.gs);simpa using this
 ·have bZ:=h.ph;unfold lT at bZ⊢;rw[hL.len,hL.each,hL.many]
  show match N.ph with
   | .idle=>N.kind=0∧load X≤mh N.len N.au+l7 del add N.sl/8
   | .nN k=>jU (N.ql X (l7 del add N.sl))∧k<N.each*N.many∧load X≤mh N.len N.au+(k+l7 del add N.sl)/8∧(aI X.gs).length+1≤sO N.kind N.len N.au+(k+l7 del add N.sl)/8
   | .iX Ts next=>jU (N.ql X (l7 del add N.sl))∧next≤N.len∧zN N.many N.each N.au Ts∧(∀i s e,aG X.gs i s= .full e→next≤i)∧loads Ts+(aI X.gs).length+1≤sO N.kind N.len N.au+(N.each*N.many+next+l7 del add N.sl)/8
  have hsk:(add.length≤del.length∧l7 del add N.sl=N.sl)∨(add.length=1∧del.length=0∧N.sl=0∧l7 del add N.sl=8):=by
   rcases h1 with h2|⟨h2,h3,h4⟩
   ·exact .inl ⟨h2,by unfold l7;rw[if_neg (by omega)]⟩
   ·exact .inr ⟨h2,by rw[h3];rfl,h4,by unfold l7;rw[if_pos (by rw[h3,h2];simp)]⟩
  cases hp:N.ph with
  |idle=>
   rw[hp]at bZ;exact⟨bZ.1,by have:=bZ.2;omega⟩
  |nN k=>
   rw[hp]at bZ;obtain⟨g1,g2,g3,g4⟩:=bZ;exact⟨hL.kindOk g1,g2,by omega,by omega⟩
  |iX Ts next=>
   rw[hp]at bZ;obtain⟨g1,g2,g3,g4,g5⟩:=bZ
   obtain⟨m1,m2⟩:=hm Ts next hp
   refine⟨hL.kindOk g1,g2,g3,fun i s e he=> ?_,by omega⟩;rcases hc.at_ i s e he with h2|⟨e0,h2⟩
   ·exact absurd h2 m1
   ·exact g4 i s e0 h2
theorem afd {N:Nd}{j:Nat}(h:eu H N)(hp:N.ph= .iX Ts next)(hj:Ts[j]?=some Y)(ha:wV H N del add)(hc:BL del add Y X)(hsd:∀e∈add,cO N.many N.au e.hash=j):Wr H del add N (N.Pn Ts next j X (l7 del add N.sl)):=by
 have hL:Like N (N.Pn Ts next j X (l7 del add N.sl)):=⟨rfl,rfl,rfl,rfl,by rw[hp];rfl⟩;have hlen:=hc.Jd.len;have hld:=hc.load_;have hs:=h.sl;have h1:=ha.one;have hls:=Lu hj X;refine Wr.of h ha hL ?_ ?_ h.tg rfl (fun hh=>by rw[hp]at hh;cases hh) ?_
 ·unfold Nd.left;rw[hp];rfl
 ·obtain⟨A,B,hA,hB⟩:=DU hj;have:=hc.Jd.wrap A (B++aI N.T.gs);unfold Nd.ents;rw[hp];show uf del add (bX Ts++aI N.T.gs) (bX (Ts.set j X)++aI N.T.gs);rw[hA,hB];simpa using this
 ·have bZ:=h.ph;unfold lT at bZ;rw[hp]at bZ;obtain⟨g1,g2,g3,g4,g5⟩:=bZ
  show jU _∧next≤N.len∧zN N.many N.each N.au (Ts.set j X)∧(∀i s e,aG N.T.gs i s= .full e→next≤i)∧loads (Ts.set j X)+(aI N.T.gs).length+1≤sO N.kind N.len N.au+(N.each*N.many+next+l7 del add N.sl)/8
  refine⟨hL.kindOk g1,g2,g3.ak hj hc hsd,g4, ?_⟩
  have hsk:(add.length≤del.length∧l7 del add N.sl=N.sl)∨(add.length=1∧del.length=0∧N.sl=0∧l7 del add N.sl=8):=by
   rcases h1 with h2|⟨h2,h3,h4⟩
   ·exact .inl ⟨h2,by unfold l7;rw[if_neg (by omega)]⟩
   ·exact .inr ⟨h2,by rw[h3];rfl,h4,by unfold l7;rw[if_pos (by rw[h3,h2];simp)]⟩
  omega
theorem Sq {N:Nd}(h:eu H N)(he:nu H e)(ht:dZ e.hash N.au=N.pfx)(hk:∀x∈N.ents,x.key≠e.key)(hf:N.ents.length+1≤192)(hs:N.sl=0):wV H N [] [e]:=
 ⟨fun x hx=>by simp at hx;subst hx;exact⟨he,ht⟩,fun r hr=>by
  have h1:=(hr.map ay.key).nodup_iff.1 h.keys;rw[List.nil_append]at h1 hr;rw[List.singleton_append,List.map_cons,List.nodup_cons]
  exact⟨fun hh=>by obtain⟨x,h2,h3⟩:=List.mem_map.1 hh;exact hk x (hr.mem_iff.2 h2) h3,h1⟩,by simpa using hf,.inr ⟨rfl,rfl,hs⟩⟩
theorem LB {N:Nd}{v:Nat}(h:eu H N)(he:e∈N.ents)(hv:v<18446744073709551616):wV H N [e] [{e with val:=v}]:=
 ⟨fun x hx=>by simp at hx;subst hx;obtain⟨h1,h2⟩:=h.hash e he;exact⟨⟨h1.hash,h1.h64,h1.k64,hv⟩,h2⟩,fun r hr=>by
  have h1:=(hr.map ay.key).nodup_iff.1 h.keys
  simpa using h1,by have:=h.few;simp;omega,.inl (by simp)⟩
def Nd.start (N:Nd)(kind:Nat):Nd:={N with kind:=kind,sl:=8,ph:= .nN 0}
theorem Po {N:Nd}{kind:Nat}(h:eu H N)(hi:N.ph= .idle)(hgl:gl≤5)(hk:ji N.T.live N.T.bO N.len N.au gl=kind)(h0:kind≠0):eu H (N.start kind)∧(N.start kind).ents=N.ents:=by
 have hE:(N.start kind).ents=N.ents:=by unfold Nd.ents Nd.start;rw[hi];rfl
 have bZ:=h.ph;unfold lT at bZ;rw[hi]at bZ;have hs:=h.sl;have hl:=h.tg.ok.live
 have hK:jU (N.start kind)∧(kind=1→2*N.len<(aI N.T.gs).length→N.len=64):=by
  unfold ji at hk;split at hk
  ·exact absurd hk.symm h0
  ·split at hk
   ·next h1=>subst hk;exact⟨.inl rfl,fun _ h2=>by omega⟩
   ·split at hk
    ·next h1=>subst hk;exact⟨.inr (.inr ⟨rfl,h1.1,by show N.au<5;omega⟩),fun hh=>by omega⟩
    ·split at hk
     ·next h1=>subst hk;exact⟨.inr (.inl ⟨rfl,h1⟩),fun hh=>by omega⟩
     ·next h1=>subst hk;exact⟨.inl rfl,fun _ _=>by have:=h.pw.le;omega⟩
 have hle:(aI N.T.gs).length≤load N.T:=by unfold load;omega
 have Pp:=h.few
 have hE2:N.ents.length=(aI N.T.gs).length:=by unfold Nd.ents;rw[hi];simp[AJ,bX]
 have hkE:=iY (N:=N.start kind) h.pw hK.1;refine⟨⟨h.tg,h.deep,h.big,h.pfx,Nat.le_refl 8,by rw[hE];exact h.keys,by rw[hE];exact h.hash,by rw[hE];exact h.few, ?_⟩,hE⟩;show jU (N.start kind)∧0<(N.start kind).each*(N.start kind).many∧load N.T≤mh N.len N.au+(0+8)/8∧(aI N.T.gs).length+1≤sO kind N.len N.au+(0+8)/8;have hpos:=h.pw.pos;have hlen:(N.start kind).len=N.len:=rfl;refine⟨hK.1,by omega,by omega, ?_⟩;unfold sO;by_cases h1:kind=1
 ·rw[if_pos h1];have:=hK.2 h1;have h64:=h.pw.le;by_cases h2:N.len<64
  ·rw[if_pos h2];omega
  ·rw[if_neg h2];omega
 ·rw[if_neg h1];omega
theorem ace {N:Nd}(h:eu H N)(hi:N.ph= .idle)(hk:ji N.T.live N.T.bO N.len N.au gl=0):eu H {N with sl:=0}:=by
 have bZ:=h.ph;unfold lT at bZ;rw[hi]at bZ;have hl:=h.tg.Uw
 have hn:mE N.T.live N.T.bO N.len=false:=by
  unfold ji at hk;split at hk
  ·assumption
  ·split at hk
   ·cases hk
   ·split at hk
    ·cases hk
    ·split at hk<;>cases hk
 unfold mE at hn;simp only[Bool.or_eq_false_iff,decide_eq_false_iff_not]at hn;refine⟨h.tg,h.deep,h.big,h.pfx,Nat.zero_le _,h.keys,h.hash,h.few, ?_⟩;unfold lT
 show match N.ph with
  | .idle=>N.kind=0∧load N.T≤mh N.len N.au+0/8
  | .nN k=>_
  | .iX Ts next=>_
 rw[hi];refine⟨bZ.1, ?_⟩;unfold mh;have:=h.pw.pos;omega
theorem ended {N:Nd}(h:eu H N)(hb:N.ph.busy=true)(hl:N.left=0):∃Ts,N.ph= .iX Ts N.len∧aI N.T.gs=[]:=by
 have bZ:=h.ph;unfold lT at bZ;have hpos:=h.pw.pos;unfold Nd.left at hl
 cases hp:N.ph with
 |idle=>rw[hp]at hb;cases hb
 |nN k=>rw[hp]at hl;simp only at hl;omega
 |iX Ts next=>
  rw[hp]at hl bZ;simp only at hl;obtain⟨h1,h2,h3,h4,h5⟩:=bZ
  obtain rfl:next=N.len:=by omega
  refine⟨Ts,rfl,List.eq_nil_iff_forall_not_mem.2 fun e he=> ?_⟩;obtain⟨i,s,hs⟩:=qZ.1 he;have:=h4 i s e hs;have:=(j6 (gs:=N.T.gs) (i:=i) (s:=s) (by rw[hs];exact fun h=>by cases h)).1;unfold Nd.len at*;omega
theorem aai {h d:Nat}(hd:d≤5):dZ h (d+1)=2*dZ h d+uH h d:=by
 unfold dZ uH
 have h1:64-(d+1)=63-d:=by omega
 have h2:(2:Nat)^(64-d)=2^(63-d)*2:=by rw[←Nat.pow_succ];congr 1;omega
 rw[h1,h2,←Nat.div_div_eq_div_mul];omega
theorem acf {N:Nd}(h:eu H N)(hp:N.ph= .iX [X] N.len)(hT:aI N.T.gs=[]):eu H ⟨N.pfx,N.au,0,0,X,.idle⟩∧(Nd.mk N.pfx N.au 0 0 X .idle).ents=N.ents∧X.gs.length=N.each∧N.many=1:=by
 have bZ:=h.ph;unfold lT at bZ;rw[hp]at bZ;obtain⟨h1,h2,h3,h4,h5⟩:=bZ;obtain⟨k1,k2,k3,k4,k5⟩:=iY h.pw h1
 have hm:N.many=1:=by have:=h3.len;simpa using this.symm
 obtain⟨x1,x2⟩:=h3.tg 0 X rfl
 have hE:(Nd.mk N.pfx N.au 0 0 X .idle).ents=N.ents:=by unfold Nd.ents;rw[hp,hT];simp[AJ,bX]
 have hr:=room_end (L:=load X) h.pw h.deep h.big h1 h.sl (by rw[hT]at h5;simpa[loads]using h5);rw[hm,if_neg (by omega)]at hr;refine⟨⟨x1,h.deep, ?_,h.pfx,Nat.zero_le _,by rw[hE];exact h.keys,by rw[hE];exact h.hash,by rw[hE];exact h.few,rfl, ?_⟩,hE,x2,hm⟩
 ·rcases h.big with hb|hb
  ·exact .inl hb
  ·right;show 8≤X.gs.length;rw[x2,←Nat.mul_one N.each,←hm];omega
 ·show load X≤mh X.gs.length N.au+0/8;rw[x2];omega
theorem acg {N:Nd}(h:eu H N)(hp:N.ph= .iX [X,Y] N.len)(hT:aI N.T.gs=[]):eu H ⟨2*N.pfx,N.au+1,0,0,X,.idle⟩∧eu H ⟨2*N.pfx+1,N.au+1,0,0,Y,.idle⟩∧
  (Nd.mk (2*N.pfx) (N.au+1) 0 0 X .idle).ents++(Nd.mk (2*N.pfx+1) (N.au+1) 0 0 Y .idle).ents=N.ents∧X.gs.length=N.each∧Y.gs.length=N.each∧N.many=2∧N.au<5:=by
 have bZ:=h.ph;unfold lT at bZ;rw[hp]at bZ;obtain⟨h1,h2,h3,h4,h5⟩:=bZ;obtain⟨k1,k2,k3,k4,k5⟩:=iY h.pw h1
 have hm:N.many=2:=by have:=h3.len;simpa using this.symm
 have hk3:N.kind=3∧N.each=N.len:=by omega
 have hd5:8≤N.len∧N.au<5:=by rcases h1 with h6|h6|h6<;>omega
 obtain⟨x1,x2⟩:=h3.tg 0 X rfl;obtain⟨y1,y2⟩:=h3.tg 1 Y rfl
 have hE:(Nd.mk (2*N.pfx) (N.au+1) 0 0 X .idle).ents++(Nd.mk (2*N.pfx+1) (N.au+1) 0 0 Y .idle).ents=N.ents:=by unfold Nd.ents;rw[hp,hT];simp[AJ,bX]
 have hl:loads [X,Y]=load X+load Y:=by simp[loads]
 rw[hT,hl,List.length_nil]at h5;have hr1:=room_end (L:=load X) h.pw h.deep h.big h1 h.sl (by omega);have hr2:=room_end (L:=load Y) h.pw h.deep h.big h1 h.sl (by omega);rw[if_pos hm]at hr1 hr2;have hkeys:=h.keys;rw[←hE,List.map_append]at hkeys;have hn:=List.nodup_append.1 hkeys;have Pp:=h.few;rw[←hE,List.length_append]at Pp;have hpf:=h.pfx;have hpw:2^(N.au+1)=2^N.au*2:=Nat.pow_succ ..
 have hside:∀(j:Nat) (Z:aD) (e:ay),[X,Y][j]?=some Z→e∈aI Z.gs→nu H e∧dZ e.hash (N.au+1)=2*N.pfx+j:=fun j Z e hZ he=>by
  have h6:=h3.side j Z e hZ he;obtain⟨h7,h8⟩:=h.hash e (by unfold Nd.ents;rw[hp];exact List.mem_append_left _ (nk.2 ⟨j,Z,hZ,he⟩));refine⟨h7, ?_⟩;rw[aai (by omega),h8];unfold cO at h6;rw[if_neg (by omega)]at h6;omega
 refine⟨⟨x1,by show N.au+1≤5;omega,.inr (by show 8≤X.gs.length;omega),by show 2*N.pfx<2^(N.au+1);omega,Nat.zero_le _,hn.1,fun e he=>hside 0 X e rfl (by simpa[Nd.ents,AJ,bX]using he),by omega,rfl,by show load X≤mh X.gs.length (N.au+1)+0/8;rw[x2];omega⟩,
  ⟨y1,by show N.au+1≤5;omega,.inr (by show 8≤Y.gs.length;omega),by show 2*N.pfx+1<2^(N.au+1);omega,Nat.zero_le _,hn.2.1,fun e he=>hside 1 Y e rfl (by simpa[Nd.ents,AJ,bX]using he),by omega,rfl,by show load Y≤mh Y.gs.length (N.au+1)+0/8;rw[y2];omega⟩,hE,x2,y2,hm,hd5.2⟩
theorem Xg {N:Nd}(h:eu H N)(hp:N.ph= .iX Ts next):∃Tx,Ts[cO N.many N.au (H key)]?=some Tx∧
  ((∃e∈N.ents,e.key=key∧e.hash=H key∧((e∈aI Tx.gs∧∃i s,(aK Tx.gs key (H key)).1=some (i,s)∧aG Tx.gs i s= .full e)∨((aK Tx.gs key (H key)).1=none∧∃i s,(aK N.T.gs key (H key)).1=some (i,s)∧aG N.T.gs i s= .full e)))∨
   ((∀e∈N.ents,e.key≠key)∧(aK Tx.gs key (H key)).1=none∧(aK N.T.gs key (H key)).1=none)):=by
 have bZ:=h.ph;unfold lT at bZ;rw[hp]at bZ;obtain⟨h1,h2,h3,h4,h5⟩:=bZ;obtain⟨k1,k2,k3,k4,k5⟩:=iY h.pw h1;obtain⟨Tx,hT⟩:∃Tx,Ts[cO N.many N.au (H key)]?=some Tx:=⟨_,List.getElem?_eq_getElem (by rw[h3.len];exact Sn k2)⟩
 have hE:N.ents=bX Ts++aI N.T.gs:=by unfold Nd.ents;rw[hp];rfl
 refine⟨Tx,hT, ?_⟩;have hnk:=h.keys;rw[hE,List.map_append]at hnk;by_cases hex:∃e∈N.ents,e.key=key
 ·obtain⟨e,he,hk⟩:=hex;have hh:=(h.hash e he).1.hash;rw[hk]at hh;refine .inl ⟨e,he,hk,hh, ?_⟩;rw[hE]at he;rcases List.mem_append.1 he with he|he
  ·obtain⟨j,T',hj,heT⟩:=nk.1 he;have hs:=h3.side j T' e hj heT;rw[hh]at hs;rw[hs]at hT;rw[hT]at hj;cases hj;obtain⟨i,s,a,b⟩:=J7 (h3.tg j Tx hT).1 heT;rw[hk,hh]at a;exact .inl ⟨heT,i,s,a,b⟩
  ·obtain⟨i,s,a,b⟩:=J7 h.tg he;rw[hk,hh]at a;refine .inr ⟨ru fun x hx hxk=> ?_,i,s,a,b⟩;exact(List.nodup_append.1 hnk).2.2 x.key (List.mem_map_of_mem (nk.2 ⟨_,_,hT,hx⟩)) e.key (List.mem_map_of_mem he) (hxk.trans hk.symm)
 ·have hne:∀e∈N.ents,e.key≠key:=fun e he hk=>hex ⟨e,he,hk⟩;exact .inr ⟨hne,ru fun x hx=>hne x (by rw[hE];exact List.mem_append_left _ (nk.2 ⟨_,_,hT,hx⟩)),ru fun x hx=>hne x (by rw[hE];exact List.mem_append_right _ hx)⟩
theorem LC {N:Nd}(h:eu H N)(hp:AJ N.ph=[]):(∃e∈N.ents,e.key=key∧e.hash=H key∧∃i s,(aK N.T.gs key (H key)).1=some (i,s)∧aG N.T.gs i s= .full e)∨((∀e∈N.ents,e.key≠key)∧(aK N.T.gs key (H key)).1=none):=by
 have hE:N.ents=aI N.T.gs:=by unfold Nd.ents;rw[hp];rfl
 by_cases hex:∃e∈N.ents,e.key=key
 ·obtain⟨e,he,hk⟩:=hex;have hh:=(h.hash e he).1.hash;rw[hk]at hh;obtain⟨i,s,a,b⟩:=J7 h.tg (hE▸he);rw[hk,hh]at a;exact .inl ⟨e,he,hk,hh,i,s,a,b⟩
 ·have hne:∀e∈N.ents,e.key≠key:=fun e he hk=>hex ⟨e,he,hk⟩;exact .inr ⟨hne,ru fun x hx=>hne x (by rw[hE];exact hx)⟩
def look (l:List ay)(key:Nat):Option ay:=l.find? fun e=>e.key==key
theorem lI (hn:(l.map ay.key).Nodup)(he:e∈l):look l e.key=some e:=by
 unfold look
 cases hf:l.find? (fun x=>x.key==e.key)with
 |none=>exact absurd (List.find?_eq_none.1 hf e he) (by simp)
 |some x=>
  have h1:=List.mem_of_find?_eq_some hf;have h2:=List.find?_some hf;simp at h2;congr 1;obtain⟨i,hi,rfl⟩:=List.getElem_of_mem h1;obtain⟨j,hj,rfl⟩:=List.getElem_of_mem he
  have h3:(l.map ay.key)[i]'(by simpa using hi)=(l.map ay.key)[j]'(by simpa using hj):=by simpa using h2
  have h4:=(List.getElem_inj hn).1 h3;subst h4;rfl
theorem Xh (h:∀e∈l,e.key≠key):look l key=none:=by
 unfold look;rw[List.find?_eq_none];intro e he;simpa using h e he
theorem yw (h:look l key=some e):e∈l∧e.key=key:=by
 unfold look at h;exact⟨List.mem_of_find?_eq_some h,by simpa using List.find?_some h⟩
theorem LD {l':List ay}(hp:l.Perm l')(hn:(l.map ay.key).Nodup)(key:Nat):look l key=look l' key:=by
 cases h:look l' key with
 |none=>
  refine Xh fun e he hk=> ?_;have:=lI ((hp.map ay.key).nodup_iff.1 hn) (hp.mem_iff.1 he);rw[hk,h]at this;cases this
 |some e=>
  obtain⟨h1,h2⟩:=yw h;rw[←h2];exact lI hn (hp.mem_iff.2 h1)
end
end Go.Proofs.YtjfgpnapccdnlaaGreatDoor
