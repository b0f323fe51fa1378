/- A node as it is seen from above: its entries, its job, the room it has; what a step leaves of that. No statement of the claim. -/
import Derived.Test.YtgkeameopnpinaaGreatDoorCoBY
import Derived.Test.YtgkeameopnpinaaGreatDoorSqM
namespace Go.Proofs.YtgkeameopnpinaaGreatDoor
set_option maxHeartbeats 2000000
open Go bY
section
variable {H : Nat → Nat}
inductive Phase where
 |idle
 |mZ (k:Nat)
 |iN (Ts:List aB) (next:Nat)
structure Nd where
 pfx:Nat
 au:Nat
 kind:Nat
 sl:Nat
 T:aB
 ph:Phase
def y5:Phase→List aB
 | .iN Ts _=>Ts
 |_=> []
def Phase.busy:Phase→Bool
 | .idle=>false
 |_=>true
def Nd.len (N:Nd):Nat:=N.T.gs.length
def Nd.many (N:Nd):Nat:=if N.kind=3 then 2 else 1
def Nd.each (N:Nd):Nat:=if N.kind=2 then 2*N.len else N.len
def Nd.ents (N:Nd):List av:=cK (y5 N.ph)++aL N.T.gs
def Nd.left (N:Nd):Nat:=match N.ph with
 | .idle=>0
 | .mZ k=>N.len+(N.each*N.many-k)
 | .iN _ next=>N.len-next
def Nd.groups (N:Nd):Nat:=if N.ph.busy then N.len+N.each*N.many else N.len
def lJ (n d:Nat):Nat:=4*n-1+d*(3*n/8+1)
def ru (kind n d:Nat):Nat:=if kind=1 then(if n<64 then 2*n else 192)else lJ n d+1
def jB (N:Nd):Prop:=N.kind=1∨(N.kind=2∧N.len<64)∨(N.kind=3∧8≤N.len∧N.au<5)
def kX (N:Nd):Prop:=match N.ph with
 | .idle=>N.kind=0∧load N.T≤lJ N.len N.au+N.sl/8
 | .mZ k=>jB N∧k<N.each*N.many∧load N.T≤lJ N.len N.au+(k+N.sl)/8∧(aL N.T.gs).length+1≤ru N.kind N.len N.au+(k+N.sl)/8
 | .iN Ts next=>jB N∧next≤N.len∧xZ N.many N.each N.au Ts∧(∀i s e,aF N.T.gs i s= .full e→next≤i)∧loads Ts+(aL N.T.gs).length+1≤ru N.kind N.len N.au+(N.each*N.many+next+N.sl)/8
structure jW (H:Nat→Nat)(e:av):Prop where
 hash:e.hash=H e.key
 h64:e.hash<18446744073709551616
 k64:e.key<18446744073709551616
 v64:e.val<18446744073709551616
structure dO (H:Nat→Nat)(N:Nd):Prop where
 tg:TG N.T
 deep:N.au≤5
 big:N.au=0∨8≤N.len
 pfx:N.pfx<2^N.au
 sl:N.sl≤8
 keys:(N.ents.map av.key).Nodup
 hash:∀e∈N.ents,jW H e∧dM e.hash N.au=N.pfx
 few:N.ents.length≤192
 ph:kX N
theorem dO.pw {N:Nd}(h:dO H N):Pw N.len:=h.tg.ok.pow
theorem iO {N:Nd}(h:Pw N.len)(hk:jB N):Pw N.each∧(N.many=1∨N.many=2)∧N.each*N.many≤2*N.len∧N.len≤N.each*N.many∧
  (N.kind=1∧N.each=N.len∧N.many=1∨N.kind=2∧N.each=2*N.len∧N.many=1∨N.kind=3∧N.each=N.len∧N.many=2):=by
 unfold Nd.each Nd.many
 rcases hk with h1|⟨h1,h2⟩|⟨h1,h2,h3⟩<;>rw[h1]<;>simp
 ·exact⟨h,by omega⟩
 ·refine⟨?_,by omega⟩;unfold Pw at h⊢;omega
 ·exact⟨h,by omega⟩
section
variable {n d k s L l kind : Nat}
theorem LQ (hn:Pw n)(hd:d≤5)(hb:d=0∨8≤n)(hk:k≤2*n)(h:L≤lJ n d+k/8):L+1≤7*n:=by
 unfold lJ at h;rcases hb with rfl|hb
 ·rcases hn with rfl|rfl|rfl|rfl|rfl|rfl|rfl<;>omega
 ·rcases hn with rfl|rfl|rfl|rfl|rfl|rfl|rfl<;>omega
theorem FM {N:Nd}(hn:Pw N.len)(hd:N.au≤5)(hb:N.au=0∨8≤N.len)(hk:jB N)(hs:s≤3*N.len+8):ru N.kind N.len N.au+s/8≤7*N.each:=by
 unfold Nd.each;revert hk hb hn hd hs;unfold jB;generalize N.len=n;generalize N.au=d;intro hn hd hb hk hs
 rcases hk with h1|⟨h1,h2⟩|⟨h1,h2,h3⟩<;>rw[h1]<;>unfold ru lJ<;>simp
 ·rcases hn with rfl|rfl|rfl|rfl|rfl|rfl|rfl<;>simp<;>omega
 ·rcases hb with rfl|hb<;>rcases hn with rfl|rfl|rfl|rfl|rfl|rfl|rfl<;>simp at* <;>omega
 ·rcases hn with rfl|rfl|rfl|rfl|rfl|rfl|rfl<;>simp at* <;>omega
theorem room_end {N:Nd}(hn:Pw N.len)(hd:N.au≤5)(hb:N.au=0∨8≤N.len)(hk:jB N)(hs:s≤8)(h:L+1≤ru N.kind N.len N.au+(N.each*N.many+N.len+s)/8):
  L≤lJ N.each (if N.many=2 then N.au+1 else N.au):=by
 revert h;unfold Nd.each Nd.many;revert hk hb hn hd;unfold jB;generalize N.len=n;generalize N.au=d;intro hn hd hb hk h
 rcases hk with h1|⟨h1,h2⟩|⟨h1,h2,h3⟩<;>rw[h1]at h⊢<;>unfold ru lJ at* <;>simp at h⊢
 ·rcases hn with rfl|rfl|rfl|rfl|rfl|rfl|rfl<;>simp at h⊢<;>omega
 ·rcases hb with rfl|hb<;>rcases hn with rfl|rfl|rfl|rfl|rfl|rfl|rfl<;>simp at* <;>omega
 ·rcases hn with rfl|rfl|rfl|rfl|rfl|rfl|rfl<;>simp at* <;>omega
end
def x9:bI:=⟨⟨0,0,0⟩,⟨0,0,0⟩⟩
def Nd.step (N:Nd):Nd:=match N.ph with
 | .idle=>N
 | .mZ k=>{N with sl:=N.sl-1,ph:=if k+1=N.each*N.many then .iN (List.replicate N.many (dN N.each N.each)) 0 else .mZ (k+1)}
 | .iN Ts next=>{N with sl:=N.sl-1,T:=takeN N.T next 8,ph:= .iN (dZ N.many N.au (x9,Ts) (bO (N.T.gs.getD next []))).2 (next+1)}
structure Like (N N':Nd):Prop where
 pfx:N'.pfx=N.pfx
 au:N'.au=N.au
 kind:N'.kind=N.kind
 len:N'.len=N.len
 busy:N'.ph.busy=N.ph.busy
theorem Like.each {N N':Nd}(h:Like N N'):N'.each=N.each:=by unfold Nd.each;rw[h.kind,h.len]
theorem Like.many {N N':Nd}(h:Like N N'):N'.many=N.many:=by unfold Nd.many;rw[h.kind]
theorem Like.groups {N N':Nd}(h:Like N N'):N'.groups=N.groups:=by unfold Nd.groups;rw[h.busy,h.each,h.many,h.len]
theorem Like.kindOk {N N':Nd}(h:Like N N')(hk:jB N):jB N':=by unfold jB at*;rw[h.kind,h.len,h.au];exact hk
theorem Like.refl (N:Nd):Like N N:=⟨rfl,rfl,rfl,rfl,rfl⟩
theorem Like.trans {N N' N2:Nd}(h:Like N N')(k:Like N' N2):Like N N2:=⟨k.pfx.trans h.pfx,k.au.trans h.au,k.kind.trans h.kind,k.len.trans h.len,k.busy.trans h.busy⟩
theorem qm (N:Nd):Like N N.step:=by
 unfold Nd.step
 cases h:N.ph with
 |idle=>exact Like.refl N
 |mZ k=>exact⟨rfl,rfl,rfl,rfl,by simp only;rw[h];split<;>rfl⟩
 |iN Ts next=>exact⟨rfl,rfl,rfl,qR _ _ _,by rw[h];rfl⟩
theorem dO.fits {N:Nd}(h:dO H N){Ts:List aB}{next:Nat}(hp:N.ph= .iN Ts next)(hn:next<N.len)(x:bI):
  Fits N.many N.au Ts (bO (N.T.gs.getD next []))∧xZ N.many N.each N.au (dZ N.many N.au (x,Ts) (bO (N.T.gs.getD next []))).2∧(cK (dZ N.many N.au (x,Ts) (bO (N.T.gs.getD next []))).2).Perm (bO (N.T.gs.getD next [])++cK Ts)∧
   loads (dZ N.many N.au (x,Ts) (bO (N.T.gs.getD next []))).2≤loads Ts+(bO (N.T.gs.getD next [])).length∧∃c,(dZ N.many N.au (x,Ts) (bO (N.T.gs.getD next []))).1=x.add cV c:=by
 have cZ:=h.ph;unfold kX at cZ;rw[hp]at cZ;obtain⟨h1,h2,h3,h4,h5⟩:=cZ;obtain⟨k1,k2,k3,k4,_⟩:=iO h.pw h1;obtain⟨t1,t2,t3⟩:=zM h.tg hn;have hsl:=h.sl;have hB:=FM h.pw h.deep h.big h1 (s:=N.each*N.many+next+N.sl) (by omega);have hlen:=t3.length_eq;rw[List.length_append]at hlen
 have ace:N.ents=cK Ts++aL N.T.gs:=by unfold Nd.ents;rw[hp];rfl
 have hpe:N.ents.Perm ((bO (N.T.gs.getD next [])++cK Ts)++aL (takeN N.T next 8).gs):=by
  rw[ace];refine(t3.append_left _).trans ?_;rw[←List.append_assoc];exact List.perm_append_comm.append_right _
 refine moves k2 hB _ Ts x h3 ?_ (fun e he=> ?_) (by omega)
 ·have:=(hpe.map av.key).nodup_iff.1 h.keys;rw[List.map_append]at this;exact(List.nodup_append.1 this).1
 ·exact(h.hash e (hpe.mem_iff.2 (List.mem_append_left _ (List.mem_append_left _ he)))).1.h64
theorem Jg {N:Nd}(h:dO H N)(hl:1≤N.left):N.step.ents.Perm N.ents:=by
 cases hp:N.ph with
 |idle=>unfold Nd.left at hl;rw[hp]at hl;simp at hl
 |mZ k=>
  have cZ:=h.ph;unfold kX at cZ;rw[hp]at cZ;unfold Nd.step Nd.ents;rw[hp];simp only;split
  ·rw[show y5 (Phase.iN (List.replicate N.many (dN N.each N.each)) 0)=List.replicate N.many (dN N.each N.each)from rfl,(Je (m:=N.many) (d:=N.au) (iO h.pw cZ.1).1).2.1];exact .refl _
  ·exact .refl _
 |iN Ts next=>
  have hn:next<N.len:=by unfold Nd.left at hl;rw[hp]at hl;simp only at hl;omega
  obtain⟨_,_,h3,_⟩:=h.fits hp hn x9;obtain⟨_,_,t3⟩:=zM h.tg hn;unfold Nd.step Nd.ents;rw[hp];show(cK (dZ N.many N.au (x9,Ts) (bO (N.T.gs.getD next []))).2++aL (takeN N.T next 8).gs).Perm (cK Ts++aL N.T.gs);refine(h3.append_right _).trans (List.Perm.trans ?_ (t3.symm.append_left _));rw[←List.append_assoc];exact List.perm_append_comm.append_right _
theorem Tj {N:Nd}(h:dO H N)(hl:1≤N.left):N.step.left+1=N.left:=by
 have hL:=qm N;unfold Nd.left at hl⊢;rw[hL.len,hL.each,hL.many]
 cases hp:N.ph with
 |idle=>rw[hp]at hl;simp at hl
 |mZ k=>
  have cZ:=h.ph;unfold kX at cZ;rw[hp]at cZ;obtain⟨_,hk,_⟩:=cZ;by_cases h1:k+1=N.each*N.many
  ·have hP:N.step.ph= .iN (List.replicate N.many (dN N.each N.each)) 0:=by unfold Nd.step;rw[hp];simp only;rw[if_pos h1]
   rw[hP];show N.len-0+1=N.len+(N.each*N.many-k);omega
  ·have hP:N.step.ph= .mZ (k+1):=by unfold Nd.step;rw[hp];simp only;rw[if_neg h1]
   rw[hP];show N.len+(N.each*N.many-(k+1))+1=N.len+(N.each*N.many-k);omega
 |iN Ts next=>
  rw[hp]at hl;unfold Nd.step;rw[hp];simp only at hl⊢;omega
theorem step_ok {N:Nd}(h:dO H N)(hl:1≤N.left):dO H N.step:=by
 have hL:=qm N;have hE:=Jg h hl
 have hsl:N.step.sl=N.sl-1:=by
  unfold Nd.step
  cases hp:N.ph with
  |idle=>unfold Nd.left at hl;rw[hp]at hl;simp at hl
  |_=>rfl
 refine⟨?_,by rw[hL.au];exact h.deep,by rw[hL.au,hL.len];exact h.big,by rw[hL.au,hL.pfx];exact h.pfx,by rw[hsl];have:=h.sl;omega,(hE.map av.key).nodup_iff.2 h.keys,fun e he=>by rw[hL.au,hL.pfx];exact h.hash e (hE.mem_iff.1 he),by rw[hE.length_eq];exact h.few, ?_⟩
 ·cases hp:N.ph with
  |idle=>unfold Nd.left at hl;rw[hp]at hl;simp at hl
  |mZ k=>
   have hT:N.step.T=N.T:=by unfold Nd.step;rw[hp]
   rw[hT];exact h.tg
  |iN Ts next=>
   have hn:next<N.len:=by unfold Nd.left at hl;rw[hp]at hl;simp only at hl;omega
   have hT:N.step.T=takeN N.T next 8:=by unfold Nd.step;rw[hp]
   rw[hT];exact(zM h.tg hn).1
 ·have cZ:=h.ph;have hs:=h.sl;unfold kX at cZ⊢;rw[hL.len,hL.each,hL.many,hL.kind,hL.au,hsl]
  cases hp:N.ph with
  |idle=>unfold Nd.left at hl;rw[hp]at hl;simp at hl
  |mZ k=>
   rw[hp]at cZ;obtain⟨h1,h2,h3,h4⟩:=cZ
   have hT:N.step.T=N.T:=by unfold Nd.step;rw[hp]
   rw[hT];by_cases hk:k+1=N.each*N.many
   ·have hP:N.step.ph= .iN (List.replicate N.many (dN N.each N.each)) 0:=by unfold Nd.step;rw[hp];simp only;rw[if_pos hk]
    rw[hP];obtain⟨b1,b2,b3⟩:=Je (m:=N.many) (n:=N.each) (d:=N.au) (iO h.pw h1).1;refine⟨hL.kindOk h1,Nat.zero_le _,b1,fun _ _ _ _=>Nat.zero_le _, ?_⟩;rw[b3,←hk];omega
   ·have hP:N.step.ph= .mZ (k+1):=by unfold Nd.step;rw[hp];simp only;rw[if_neg hk]
    rw[hP];exact⟨hL.kindOk h1,by omega,by omega,by omega⟩
  |iN Ts next=>
   rw[hp]at cZ
   have hn:next<N.len:=by unfold Nd.left at hl;rw[hp]at hl;simp only at hl;omega
   obtain⟨h1,h2,h3,h4,h5⟩:=cZ;obtain⟨_,f2,_,f4,_⟩:=h.fits hp hn x9;obtain⟨_,t2,t3⟩:=zM h.tg hn
   have hT:N.step.T=takeN N.T next 8:=by unfold Nd.step;rw[hp]
   have hP:N.step.ph= .iN (dZ N.many N.au (x9,Ts) (bO (N.T.gs.getD next []))).2 (next+1):=by unfold Nd.step;rw[hp]
   rw[hT,hP];have hlen:=t3.length_eq;rw[List.length_append]at hlen;refine⟨hL.kindOk h1,by omega,f2,fun i s e he=> ?_,by omega⟩;obtain⟨a,b⟩:=(t2 i s e).1 he;have:=h4 i s e a;omega
end
section
variable {H : Nat → Nat} {add del l : List av} {X Y : aB} {Ts : List aB} {gl key next : Nat} {e : av}
def Nd.oJ (N:Nd)(X:aB)(s:Nat):Nd:={N with T:=X,sl:=s}
def Nd.LU (N:Nd)(Ts:List aB)(next j:Nat)(X:aB)(s:Nat):Nd:={N with ph:= .iN (Ts.set j X) next,sl:=s}
structure Wr (H:Nat→Nat)(del add:List av)(N N':Nd):Prop where
 like:Like N N'
 left:N'.left=N.left
 FL:rX del add N.ents N'.ents
 ok:dO H N'
 sl:add.length≤del.length→N'.sl=N.sl
 ld:N.ph= .idle→load N'.T≤load N.T+(add.length-del.length)
structure sV (H:Nat→Nat)(N:Nd)(del add:List av):Prop where
 hash:∀e∈add,jW H e∧dM e.hash N.au=N.pfx
 keys:∀rest,N.ents.Perm (del++rest)→((add++rest).map av.key).Nodup
 few:N.ents.length+add.length≤192+del.length
 one:add.length≤del.length∨add.length=1∧del=[]∧N.sl=0
def lG (del add:List av)(s:Nat):Nat:=if del.length<add.length then 8 else s
theorem Wr.of {N N':Nd}(h:dO H N)(ha:sV H N del add)(hL:Like N N')(hl:N'.left=N.left)(hc:rX del add N.ents N'.ents)(ht:TG N'.T)(hs:N'.sl=lG del add N.sl)(hld:N.ph= .idle→load N'.T≤load N.T+(add.length-del.length))(hp:kX N'):Wr H del add N N':=by
 refine⟨hL,hl,hc,⟨ht,by rw[hL.au];exact h.deep,by rw[hL.au,hL.len];exact h.big,by rw[hL.au,hL.pfx];exact h.pfx, ?_, ?_,fun e he=> ?_, ?_,hp⟩,fun hh=>by rw[hs];unfold lG;rw[if_neg (by omega)],hld⟩
 ·rw[hs];unfold lG;have:=h.sl;split<;>omega
 ·obtain⟨r,h1,h2⟩:=hc;exact(h2.map av.key).nodup_iff.2 (ha.keys r h1)
 ·rw[hL.au,hL.pfx];rcases hc.mem he with h1|h1
  ·exact ha.hash e h1
  ·exact h.hash e h1
 ·have:=hc.len;have:=ha.few;omega
theorem WJ {N:Nd}(h:dO H N)(ha:sV H N del add)(hc:zL del add N.T X)(hm:∀Ts next,N.ph= .iN Ts next→del≠[]∧add.length≤del.length):Wr H del add N (N.oJ X (lG del add N.sl)):=by
 have hL:Like N (N.oJ X (lG del add N.sl)):=⟨rfl,rfl,rfl,hc.len,rfl⟩;have hlen:=hc.FL.len;have hld:=hc.load_;have hs:=h.sl;have h1:=ha.one;refine Wr.of h ha hL ?_ ?_ hc.tg rfl (fun _=>hc.load_) ?_
 ·unfold Nd.left;rw[hL.len,hL.each,hL.many];rfl
 ·have:=hc.FL.wrap (cK (y5 N.ph)) [];show rX del add (cK (y5 N.ph)++aL N.T.gs) (cK (y5 N.ph)++aL X.gs);simpa using this
 ·have cZ:=h.ph;unfold kX at cZ⊢;rw[hL.len,hL.each,hL.many]
  show match N.ph with
   | .idle=>N.kind=0∧load X≤lJ N.len N.au+lG del add N.sl/8
   | .mZ k=>jB (N.oJ X (lG del add N.sl))∧k<N.each*N.many∧load X≤lJ N.len N.au+(k+lG del add N.sl)/8∧(aL X.gs).length+1≤ru N.kind N.len N.au+(k+lG del add N.sl)/8
   | .iN Ts next=>jB (N.oJ X (lG del add N.sl))∧next≤N.len∧xZ N.many N.each N.au Ts∧(∀i s e,aF X.gs i s= .full e→next≤i)∧loads Ts+(aL X.gs).length+1≤ru N.kind N.len N.au+(N.each*N.many+next+lG del add N.sl)/8
  have hsk:(add.length≤del.length∧lG del add N.sl=N.sl)∨(add.length=1∧del.length=0∧N.sl=0∧lG del add N.sl=8):=by
   rcases h1 with h2|⟨h2,h3,h4⟩
   ·exact .inl ⟨h2,by unfold lG;rw[if_neg (by omega)]⟩
   ·exact .inr ⟨h2,by rw[h3];rfl,h4,by unfold lG;rw[if_pos (by rw[h3,h2];simp)]⟩
  cases hp:N.ph with
  |idle=>
   rw[hp]at cZ;exact⟨cZ.1,by have:=cZ.2;omega⟩
  |mZ k=>
   rw[hp]at cZ;obtain⟨g1,g2,g3,g4⟩:=cZ;exact⟨hL.kindOk g1,g2,by omega,by omega⟩
  |iN Ts next=>
   rw[hp]at cZ;obtain⟨g1,g2,g3,g4,g5⟩:=cZ
   obtain⟨m1,m2⟩:=hm Ts next hp
   refine⟨hL.kindOk g1,g2,g3,fun i s e he=> ?_,by omega⟩;rcases hc.at_ i s e he with h2|⟨e0,h2⟩
   ·exact absurd h2 m1
   ·exact g4 i s e0 h2
theorem ac2 {N:Nd}{j:Nat}(h:dO H N)(hp:N.ph= .iN Ts next)(hj:Ts[j]?=some Y)(ha:sV H N del add)(hc:zL del add Y X)(hsd:∀e∈add,dx N.many N.au e.hash=j):Wr H del add N (N.LU Ts next j X (lG del add N.sl)):=by
 have hL:Like N (N.LU Ts next j X (lG del add N.sl)):=⟨rfl,rfl,rfl,rfl,by rw[hp];rfl⟩;have hlen:=hc.FL.len;have hld:=hc.load_;have hs:=h.sl;have h1:=ha.one;have hls:=Jd hj X;refine Wr.of h ha hL ?_ ?_ h.tg rfl (fun hh=>by rw[hp]at hh;cases hh) ?_
 ·unfold Nd.left;rw[hp];rfl
 ·obtain⟨A,B,hA,hB⟩:=BH hj;have:=hc.FL.wrap A (B++aL N.T.gs);unfold Nd.ents;rw[hp];show rX del add (cK Ts++aL N.T.gs) (cK (Ts.set j X)++aL N.T.gs);rw[hA,hB];simpa using this
 ·have cZ:=h.ph;unfold kX at cZ;rw[hp]at cZ;obtain⟨g1,g2,g3,g4,g5⟩:=cZ
  show jB _∧next≤N.len∧xZ N.many N.each N.au (Ts.set j X)∧(∀i s e,aF N.T.gs i s= .full e→next≤i)∧loads (Ts.set j X)+(aL N.T.gs).length+1≤ru N.kind N.len N.au+(N.each*N.many+next+lG del add N.sl)/8
  refine⟨hL.kindOk g1,g2,g3.ak hj hc hsd,g4, ?_⟩
  have hsk:(add.length≤del.length∧lG del add N.sl=N.sl)∨(add.length=1∧del.length=0∧N.sl=0∧lG del add N.sl=8):=by
   rcases h1 with h2|⟨h2,h3,h4⟩
   ·exact .inl ⟨h2,by unfold lG;rw[if_neg (by omega)]⟩
   ·exact .inr ⟨h2,by rw[h3];rfl,h4,by unfold lG;rw[if_pos (by rw[h3,h2];simp)]⟩
  omega
theorem O3 {N:Nd}(h:dO H N)(he:jW H e)(ht:dM e.hash N.au=N.pfx)(hk:∀x∈N.ents,x.key≠e.key)(hf:N.ents.length+1≤192)(hs:N.sl=0):sV H N [] [e]:=
 ⟨fun x hx=>by simp at hx;subst hx;exact⟨he,ht⟩,fun r hr=>by
  have h1:=(hr.map av.key).nodup_iff.1 h.keys;rw[List.nil_append]at h1 hr;rw[List.singleton_append,List.map_cons,List.nodup_cons]
  exact⟨fun hh=>by obtain⟨x,h2,h3⟩:=List.mem_map.1 hh;exact hk x (hr.mem_iff.2 h2) h3,h1⟩,by simpa using hf,.inr ⟨rfl,rfl,hs⟩⟩
theorem WK {N:Nd}(h:dO H N):sV H N [e] []:=
 ⟨fun x hx=>by simp at hx,fun r hr=>by
  have h1:=(hr.map av.key).nodup_iff.1 h.keys;rw[List.singleton_append,List.map_cons,List.nodup_cons]at h1
  exact h1.2,by have:=h.few;simp;omega,.inl (by simp)⟩
theorem Jh {N:Nd}{v:Nat}(h:dO H N)(he:e∈N.ents)(hv:v<18446744073709551616):sV H N [e] [{e with val:=v}]:=
 ⟨fun x hx=>by simp at hx;subst hx;obtain⟨h1,h2⟩:=h.hash e he;exact⟨⟨h1.hash,h1.h64,h1.k64,hv⟩,h2⟩,fun r hr=>by
  have h1:=(hr.map av.key).nodup_iff.1 h.keys
  simpa using h1,by have:=h.few;simp;omega,.inl (by simp)⟩
def Nd.start (N:Nd)(kind:Nat):Nd:={N with kind:=kind,sl:=8,ph:= .mZ 0}
theorem LV {N:Nd}{kind:Nat}(h:dO H N)(hi:N.ph= .idle)(hgl:gl≤5)(hk:iY N.T.live N.T.bS N.len N.au gl=kind)(h0:kind≠0):dO H (N.start kind)∧(N.start kind).ents=N.ents:=by
 have hE:(N.start kind).ents=N.ents:=by unfold Nd.ents Nd.start;rw[hi];rfl
 have cZ:=h.ph;unfold kX at cZ;rw[hi]at cZ;have hs:=h.sl;have hl:=h.tg.ok.live
 have hK:jB (N.start kind)∧(kind=1→2*N.len<(aL N.T.gs).length→N.len=64):=by
  unfold iY at hk;split at hk
  ·exact absurd hk.symm h0
  ·split at hk
   ·next h1=>subst hk;exact⟨.inl rfl,fun _ h2=>by omega⟩
   ·split at hk
    ·next h1=>subst hk;exact⟨.inr (.inr ⟨rfl,h1.1,by show N.au<5;omega⟩),fun hh=>by omega⟩
    ·split at hk
     ·next h1=>subst hk;exact⟨.inr (.inl ⟨rfl,h1⟩),fun hh=>by omega⟩
     ·next h1=>subst hk;exact⟨.inl rfl,fun _ _=>by have:=h.pw.le;omega⟩
 have hle:(aL N.T.gs).length≤load N.T:=by unfold load;omega
 have LW:=h.few
 have hE2:N.ents.length=(aL N.T.gs).length:=by unfold Nd.ents;rw[hi];simp[y5,cK]
 have hkE:=iO (N:=N.start kind) h.pw hK.1;refine⟨⟨h.tg,h.deep,h.big,h.pfx,Nat.le_refl 8,by rw[hE];exact h.keys,by rw[hE];exact h.hash,by rw[hE];exact h.few, ?_⟩,hE⟩;show jB (N.start kind)∧0<(N.start kind).each*(N.start kind).many∧load N.T≤lJ N.len N.au+(0+8)/8∧(aL N.T.gs).length+1≤ru kind N.len N.au+(0+8)/8;have hpos:=h.pw.pos;have hlen:(N.start kind).len=N.len:=rfl;refine⟨hK.1,by omega,by omega, ?_⟩;unfold ru;by_cases h1:kind=1
 ·rw[if_pos h1];have:=hK.2 h1;have h64:=h.pw.le;by_cases h2:N.len<64
  ·rw[if_pos h2];omega
  ·rw[if_neg h2];omega
 ·rw[if_neg h1];omega
theorem Zv {N:Nd}(h:dO H N)(hi:N.ph= .idle)(hk:iY N.T.live N.T.bS N.len N.au gl=0):dO H {N with sl:=0}:=by
 have cZ:=h.ph;unfold kX at cZ;rw[hi]at cZ;have hl:=h.tg.QG
 have hn:lN N.T.live N.T.bS N.len=false:=by
  unfold iY at hk;split at hk
  ·assumption
  ·split at hk
   ·cases hk
   ·split at hk
    ·cases hk
    ·split at hk<;>cases hk
 unfold lN at hn;simp only[Bool.or_eq_false_iff,decide_eq_false_iff_not]at hn;refine⟨h.tg,h.deep,h.big,h.pfx,Nat.zero_le _,h.keys,h.hash,h.few, ?_⟩;unfold kX
 show match N.ph with
  | .idle=>N.kind=0∧load N.T≤lJ N.len N.au+0/8
  | .mZ k=>_
  | .iN Ts next=>_
 rw[hi];refine⟨cZ.1, ?_⟩;unfold lJ;have:=h.pw.pos;omega
theorem ended {N:Nd}(h:dO H N)(hb:N.ph.busy=true)(hl:N.left=0):∃Ts,N.ph= .iN Ts N.len∧aL N.T.gs=[]:=by
 have cZ:=h.ph;unfold kX at cZ;have hpos:=h.pw.pos;unfold Nd.left at hl
 cases hp:N.ph with
 |idle=>rw[hp]at hb;cases hb
 |mZ k=>rw[hp]at hl;simp only at hl;omega
 |iN Ts next=>
  rw[hp]at hl cZ;simp only at hl;obtain⟨h1,h2,h3,h4,h5⟩:=cZ
  obtain rfl:next=N.len:=by omega
  refine⟨Ts,rfl,List.eq_nil_iff_forall_not_mem.2 fun e he=> ?_⟩;obtain⟨i,s,hs⟩:=pU.1 he;have:=h4 i s e hs;have:=(jI (gs:=N.T.gs) (i:=i) (s:=s) (by rw[hs];exact fun h=>by cases h)).1;unfold Nd.len at*;omega
theorem WL {h d:Nat}(hd:d≤5):dM h (d+1)=2*dM h d+sO h d:=by
 unfold dM sO
 have h1:64-(d+1)=63-d:=by omega
 have h2:(2:Nat)^(64-d)=2^(63-d)*2:=by rw[←Nat.pow_succ];congr 1;omega
 rw[h1,h2,←Nat.div_div_eq_div_mul];omega
theorem Zw {N:Nd}(h:dO H N)(hp:N.ph= .iN [X] N.len)(hT:aL N.T.gs=[]):dO H ⟨N.pfx,N.au,0,0,X,.idle⟩∧(Nd.mk N.pfx N.au 0 0 X .idle).ents=N.ents∧X.gs.length=N.each∧N.many=1:=by
 have cZ:=h.ph;unfold kX at cZ;rw[hp]at cZ;obtain⟨h1,h2,h3,h4,h5⟩:=cZ;obtain⟨k1,k2,k3,k4,k5⟩:=iO h.pw h1
 have hm:N.many=1:=by have:=h3.len;simpa using this.symm
 obtain⟨x1,x2⟩:=h3.tg 0 X rfl
 have hE:(Nd.mk N.pfx N.au 0 0 X .idle).ents=N.ents:=by unfold Nd.ents;rw[hp,hT];simp[y5,cK]
 have hr:=room_end (L:=load X) h.pw h.deep h.big h1 h.sl (by rw[hT]at h5;simpa[loads]using h5);rw[hm,if_neg (by omega)]at hr;refine⟨⟨x1,h.deep, ?_,h.pfx,Nat.zero_le _,by rw[hE];exact h.keys,by rw[hE];exact h.hash,by rw[hE];exact h.few,rfl, ?_⟩,hE,x2,hm⟩
 ·rcases h.big with hb|hb
  ·exact .inl hb
  ·right;show 8≤X.gs.length;rw[x2,←Nat.mul_one N.each,←hm];omega
 ·show load X≤lJ X.gs.length N.au+0/8;rw[x2];omega
theorem Zx {N:Nd}(h:dO H N)(hp:N.ph= .iN [X,Y] N.len)(hT:aL N.T.gs=[]):dO H ⟨2*N.pfx,N.au+1,0,0,X,.idle⟩∧dO H ⟨2*N.pfx+1,N.au+1,0,0,Y,.idle⟩∧
  (Nd.mk (2*N.pfx) (N.au+1) 0 0 X .idle).ents++(Nd.mk (2*N.pfx+1) (N.au+1) 0 0 Y .idle).ents=N.ents∧X.gs.length=N.each∧Y.gs.length=N.each∧N.many=2∧N.au<5:=by
 have cZ:=h.ph;unfold kX at cZ;rw[hp]at cZ;obtain⟨h1,h2,h3,h4,h5⟩:=cZ;obtain⟨k1,k2,k3,k4,k5⟩:=iO h.pw h1
 have hm:N.many=2:=by have:=h3.len;simpa using this.symm
 have hk3:N.kind=3∧N.each=N.len:=by omega
 have hd5:8≤N.len∧N.au<5:=by rcases h1 with h6|h6|h6<;>omega
 obtain⟨x1,x2⟩:=h3.tg 0 X rfl;obtain⟨y1,y2⟩:=h3.tg 1 Y rfl
 have hE:(Nd.mk (2*N.pfx) (N.au+1) 0 0 X .idle).ents++(Nd.mk (2*N.pfx+1) (N.au+1) 0 0 Y .idle).ents=N.ents:=by unfold Nd.ents;rw[hp,hT];simp[y5,cK]
 have hl:loads [X,Y]=load X+load Y:=by simp[loads]
 rw[hT,hl,List.length_nil]at h5;have hr1:=room_end (L:=load X) h.pw h.deep h.big h1 h.sl (by omega);have hr2:=room_end (L:=load Y) h.pw h.deep h.big h1 h.sl (by omega);rw[if_pos hm]at hr1 hr2;have hkeys:=h.keys;rw[←hE,List.map_append]at hkeys;have hn:=List.nodup_append.1 hkeys;have LW:=h.few;rw[←hE,List.length_append]at LW;have hpf:=h.pfx;have hpw:2^(N.au+1)=2^N.au*2:=Nat.pow_succ ..
 have hside:∀(j:Nat) (Z:aB) (e:av),[X,Y][j]?=some Z→e∈aL Z.gs→jW H e∧dM e.hash (N.au+1)=2*N.pfx+j:=fun j Z e hZ he=>by
  have h6:=h3.side j Z e hZ he;obtain⟨h7,h8⟩:=h.hash e (by unfold Nd.ents;rw[hp];exact List.mem_append_left _ (mK.2 ⟨j,Z,hZ,he⟩));refine⟨h7, ?_⟩;rw[WL (by omega),h8];unfold dx at h6;rw[if_neg (by omega)]at h6;omega
 refine⟨⟨x1,by show N.au+1≤5;omega,.inr (by show 8≤X.gs.length;omega),by show 2*N.pfx<2^(N.au+1);omega,Nat.zero_le _,hn.1,fun e he=>hside 0 X e rfl (by simpa[Nd.ents,y5,cK]using he),by omega,rfl,by show load X≤lJ X.gs.length (N.au+1)+0/8;rw[x2];omega⟩,
  ⟨y1,by show N.au+1≤5;omega,.inr (by show 8≤Y.gs.length;omega),by show 2*N.pfx+1<2^(N.au+1);omega,Nat.zero_le _,hn.2.1,fun e he=>hside 1 Y e rfl (by simpa[Nd.ents,y5,cK]using he),by omega,rfl,by show load Y≤lJ Y.gs.length (N.au+1)+0/8;rw[y2];omega⟩,hE,x2,y2,hm,hd5.2⟩
theorem Tk {N:Nd}(h:dO H N)(hp:N.ph= .iN Ts next):∃Tx,Ts[dx N.many N.au (H key)]?=some Tx∧
  ((∃e∈N.ents,e.key=key∧e.hash=H key∧((e∈aL Tx.gs∧∃i s,(aI Tx.gs key (H key)).1=some (i,s)∧aF Tx.gs i s= .full e)∨((aI Tx.gs key (H key)).1=none∧∃i s,(aI N.T.gs key (H key)).1=some (i,s)∧aF N.T.gs i s= .full e)))∨
   ((∀e∈N.ents,e.key≠key)∧(aI Tx.gs key (H key)).1=none∧(aI N.T.gs key (H key)).1=none)):=by
 have cZ:=h.ph;unfold kX at cZ;rw[hp]at cZ;obtain⟨h1,h2,h3,h4,h5⟩:=cZ;obtain⟨k1,k2,k3,k4,k5⟩:=iO h.pw h1;obtain⟨Tx,hT⟩:∃Tx,Ts[dx N.many N.au (H key)]?=some Tx:=⟨_,List.getElem?_eq_getElem (by rw[h3.len];exact O1 k2)⟩
 have hE:N.ents=cK Ts++aL N.T.gs:=by unfold Nd.ents;rw[hp];rfl
 refine⟨Tx,hT, ?_⟩;have hnk:=h.keys;rw[hE,List.map_append]at hnk;by_cases hex:∃e∈N.ents,e.key=key
 ·obtain⟨e,he,hk⟩:=hex;have hh:=(h.hash e he).1.hash;rw[hk]at hh;refine .inl ⟨e,he,hk,hh, ?_⟩;rw[hE]at he;rcases List.mem_append.1 he with he|he
  ·obtain⟨j,T',hj,Yq⟩:=mK.1 he;have hs:=h3.side j T' e hj Yq;rw[hh]at hs;rw[hs]at hT;rw[hT]at hj;cases hj;obtain⟨i,s,a,b⟩:=GY (h3.tg j Tx hT).1 Yq;rw[hk,hh]at a;exact .inl ⟨Yq,i,s,a,b⟩
  ·obtain⟨i,s,a,b⟩:=GY h.tg he;rw[hk,hh]at a;refine .inr ⟨pV fun x hx hxk=> ?_,i,s,a,b⟩;exact(List.nodup_append.1 hnk).2.2 x.key (List.mem_map_of_mem (mK.2 ⟨_,_,hT,hx⟩)) e.key (List.mem_map_of_mem he) (hxk.trans hk.symm)
 ·have hne:∀e∈N.ents,e.key≠key:=fun e he hk=>hex ⟨e,he,hk⟩;exact .inr ⟨hne,pV fun x hx=>hne x (by rw[hE];exact List.mem_append_left _ (mK.2 ⟨_,_,hT,hx⟩)),pV fun x hx=>hne x (by rw[hE];exact List.mem_append_right _ hx)⟩
theorem Ji {N:Nd}(h:dO H N)(hp:y5 N.ph=[]):(∃e∈N.ents,e.key=key∧e.hash=H key∧∃i s,(aI N.T.gs key (H key)).1=some (i,s)∧aF N.T.gs i s= .full e)∨((∀e∈N.ents,e.key≠key)∧(aI N.T.gs key (H key)).1=none):=by
 have hE:N.ents=aL N.T.gs:=by unfold Nd.ents;rw[hp];rfl
 by_cases hex:∃e∈N.ents,e.key=key
 ·obtain⟨e,he,hk⟩:=hex;have hh:=(h.hash e he).1.hash;rw[hk]at hh;obtain⟨i,s,a,b⟩:=GY h.tg (hE▸he);rw[hk,hh]at a;exact .inl ⟨e,he,hk,hh,i,s,a,b⟩
 ·have hne:∀e∈N.ents,e.key≠key:=fun e he hk=>hex ⟨e,he,hk⟩;exact .inr ⟨hne,pV fun x hx=>hne x (by rw[hE];exact hx)⟩
def look (l:List av)(key:Nat):Option av:=l.find? fun e=>e.key==key
theorem fP (hn:(l.map av.key).Nodup)(he:e∈l):look l e.key=some e:=by
 unfold look
 cases hf:l.find? (fun x=>x.key==e.key)with
 |none=>exact absurd (List.find?_eq_none.1 hf e he) (by simp)
 |some x=>
  have h1:=List.mem_of_find?_eq_some hf;have h2:=List.find?_some hf;simp at h2;congr 1;obtain⟨i,hi,rfl⟩:=List.getElem_of_mem h1;obtain⟨j,hj,rfl⟩:=List.getElem_of_mem he
  have h3:(l.map av.key)[i]'(by simpa using hi)=(l.map av.key)[j]'(by simpa using hj):=by simpa using h2
  have h4:=(List.getElem_inj hn).1 h3;subst h4;rfl
theorem BI (h:∀e∈l,e.key≠key):look l key=none:=by
 unfold look;rw[List.find?_eq_none];intro e he;simpa using h e he
theorem mM (h:look l key=some e):e∈l∧e.key=key:=by
 unfold look at h;exact⟨List.mem_of_find?_eq_some h,by simpa using List.find?_some h⟩
theorem BJ {l':List av}(hp:l.Perm l')(hn:(l.map av.key).Nodup)(key:Nat):look l key=look l' key:=by
 cases h:look l' key with
 |none=>
  refine BI fun e he hk=> ?_;have:=fP ((hp.map av.key).nodup_iff.1 hn) (hp.mem_iff.1 he);rw[hk,h]at this;cases this
 |some e=>
  obtain⟨h1,h2⟩:=mM h;rw[←h2];exact fP hn (hp.mem_iff.2 h1)
end
end Go.Proofs.YtgkeameopnpinaaGreatDoor
