/- What is done behind a write to a node: jobs begin, are worked at, are ended; what that leaves of a core's nodes. No statement of the claim. -/
import Derived.Test.YtkddpchpcepjgaaGreatDoorCoCK
namespace Go.Proofs.YtkddpchpcepjgaaGreatDoor
open Go.RowKit cu
section
variable {Ns : List Nd} {id : Nat} {N N' : Nd} {H : Nat -> Nat} {ids : List Nat}
def Pool.ents (a:Pool):List ay:=a.Ns.flatMap Nd.ents
def Pool.groups (a:Pool):Nat:=(a.Ns.map Nd.groups).sum
theorem sP (hN:Ns[id]?=some N):∃B B',Ns.flatMap Nd.ents=B++(N.ents++B')/\(Ns.set id N').flatMap Nd.ents=B++(N'.ents++B'):=by
 obtain⟨h1,h2⟩:=Bu hN;refine⟨(Ns.take id).flatMap Nd.ents,(Ns.drop (id+1)).flatMap Nd.ents, ?_, ?_⟩
 ·have h3:Ns.flatMap Nd.ents=(Ns.take id++N::Ns.drop (id+1)).flatMap Nd.ents:=by rw[<-h1]
  rw[h3];simp
 ·rw[h2 N'];simp
theorem JO (hN:Ns[id]?=some N)(hp:N'.ents.Perm N.ents):((Ns.set id N').flatMap Nd.ents).Perm (Ns.flatMap Nd.ents):=by
 obtain⟨B,B',h1,h2⟩:=sP (N':=N') hN;rw[h1,h2];exact(hp.append_right B').append_left B
theorem Vq (hN:Ns[id]?=some N):((Ns.set id N').map Nd.groups).sum+N.groups=(Ns.map Nd.groups).sum+N'.groups:=by
 obtain⟨h1,h2⟩:=Bu hN
 have h3:(Ns.map Nd.groups).sum=((Ns.take id++N::Ns.drop (id+1)).map Nd.groups).sum:=by rw[<-h1]
 rw[h3,h2 N'];simp only[jn,ye,List.sum_append,List.sum_cons];omega
theorem lG (hid:id<Ns.length)(i:Nat):(Ns.set id N')[i]?=if i=id then some N' else Ns[i]?:=by
 rw[qr];by_cases h:id=i
 ·rw[if_pos h,if_pos hid,if_pos h.symm]
 ·rw[if_neg h,if_neg (λe=>h e.symm)]
structure kg (a a':Pool):Prop where
 len:a'.Ns.length=a.Ns.length
 cop:a'.cop.isSome=a.cop.isSome
 jL:∀j,a'.can j↔a.can j
 ents:a'.ents.Perm a.ents
 groups:a'.groups=a.groups
 d:a'.d=a.d
 l:a'.l=a.l
 lW:∀(i:Nat) (N':Nd),a'.Ns[i]?=some N'->∃N,a.Ns[i]?=some N/\Like N N'/\N'.sl<=N.sl
theorem kg.refl (a:Pool):kg a a:=⟨rfl,rfl,λ_=>Iff.rfl,.refl _,rfl,rfl,rfl,λ_ N h=>⟨N,h,Like.refl N,zb _⟩⟩
theorem kg.trans {a b c:Pool}(h:kg a b)(k:kg b c):kg a c:=
 ⟨k.len.trans h.len,k.cop.trans h.cop,λj=>(k.jL j).trans (h.jL j),k.ents.trans h.ents,k.groups.trans h.groups,k.d.trans h.d,k.l.trans h.l,λi N' hN=>by
  obtain⟨N1,h1,h2,h3⟩:=k.lW i N' hN;obtain⟨N,h4,h5,h6⟩:=h.lW i N1 h1
  exact⟨N,h4,h5.trans h2,qf h3 h6⟩⟩
theorem Tz {H:Nat->Nat}(hb:N.ph.busy=true):N.step.sl=N.sl-1:=by
 unfold Nd.step
 cases hp:N.ph with
 |idle=>rw[hp]at hb;cases hb
 |_=>rfl
theorem Qq {a a':Pool}(hs:a.step H id a'):kg a a':=by
 rcases hs with⟨N,hN,hb,hl,ho,rfl⟩|⟨hN,rfl,c,hc,hl,rfl⟩
 ·have hid:=bJ hN;have hL:=sG N;refine⟨by simp,rfl,λj=> ?_,JO hN (Mi ho hl), ?_,rfl,rfl,λi X hX=> ?_⟩
  ·unfold Pool.can;simp only;rw[lG hid];by_cases hj:j=id
   ·subst hj;rw[if_pos rfl,hN];simp[hL.busy]
   ·rw[if_neg hj]
  ·have:=Vq (N':=N.step) hN;rw[hL.groups]at this;show((a.Ns.set id N.step).map Nd.groups).sum=(a.Ns.map Nd.groups).sum;omega
  ·have jc:(a.Ns.set id N.step)[i]?=some X:=hX;rw[lG hid]at jc;by_cases hi:i=id
   ·subst hi;rw[if_pos rfl]at jc;cases jc;exact⟨N,hN,hL,by rw[Tz (H:=H) hb];omega⟩
   ·rw[if_neg hi]at jc;exact⟨X,jc,Like.refl X,zb _⟩
 ·refine⟨rfl,by show(some _).isSome=a.cop.isSome;rw[hc];rfl,λj=> ?_,.refl _,rfl,rfl,rfl,λi X hX=>⟨X,hX,Like.refl X,zb _⟩⟩;unfold Pool.can;simp only;constructor
  ·rintro(h|⟨h1,h2,c',h3⟩)
   ·exact .inl h
   ·exact .inr ⟨h1,h2,c,hc⟩
  ·rintro(h|⟨h1,h2,c',h3⟩)
   ·exact .inl h
   ·exact .inr ⟨h1,h2,_,rfl⟩
theorem Az {a a':Pool}(hs:a.step H id a'){j:Nat}(hj:j≠id):a'.left j=a.left j:=(Fz (W0:=default) (E:=λ_=>⟨0,0,none⟩) (P:=⟨0,0,[],[],0,0⟩) ⟨λ_=>0,0,0,0,0,0⟩ (Q4 _)).MF hs hj
structure kX (a:Pool)(ids pend:List Nat):Prop where
 dir:fB a
 jL:∀id,a.can id↔id∈ids\/id∈pend
 nd:ids.Nodup
 ndp:pend.Nodup
 dis:∀i∈ids,i∉pend
 lft:∀id∈pend,a.left id=0
 some_:∀id∈ids,1<=a.left id
 sl:∀(i:Nat) (N:Nd),a.Ns[i]?=some N->i∉pend->N.sl=0
theorem kg.nd {a a':Pool}(h:kg a a'){i:Nat}(hN:a.Ns[i]?=some N):∃N',a'.Ns[i]?=some N'/\Like N N'/\N'.sl<=N.sl:=by
 obtain⟨N',hN'⟩:∃N',a'.Ns[i]?=some N':=⟨_,zg (by rw[h.len];exact bJ hN)⟩;obtain⟨N2,h1,h2,h3⟩:=h.lW i N' hN';rw[hN]at h1;cases h1;exact⟨N',hN',h2,h3⟩
theorem Ic:∀{n:Nat} {a a':Pool},KR (Pool.step H) id n a a'->kg a a'/\(fB a->fB a')/\(∀j,j≠id->a'.left j=a.left j)/\a'.left id+n=a.left id/\(∀i N N',a.Ns[i]?=some N->a'.Ns[i]?=some N'->i=id->N'.sl=N.sl-n)
 |0,a,_,h=>by
  cases h;exact⟨kg.refl a,λh=>h,λ_ _=>rfl,rfl,λi N N' h1 h2 _=>by rw[h1]at h2;cases h2;rfl⟩
 |n+1,a,a',⟨b,h1,h2⟩=>by
  obtain⟨i1,i2,i3,i4,i5⟩:=Ic h1;have hl:a'.left id+1=b.left id:=(Fz (W0:=default) (E:=λ_=>⟨0,0,none⟩) (P:=⟨0,0,[],[],0,0⟩) ⟨λ_=>0,0,0,0,0,0⟩ (Q4 _)).Eo h2;refine⟨i1.trans (Qq h2),λh=>(i2 h).step h2,λj hj=>(Az h2 hj).trans (i3 j hj),by omega,λi N N' hN hN' hi=> ?_⟩;subst hi;obtain⟨M,m1,m2,m3⟩:=(Qq h2).lW i N' hN';have h5:=i5 i N M hN m1 rfl;rcases h2 with⟨K,hK,hb,_,_,rfl⟩|⟨hK,_⟩
  ·rw[hK]at m1;cases m1;have hX:(b.Ns.set i _)[i]?=some N':=hN';rw[lG (bJ hK),if_pos rfl]at hX;cases hX;rw[Tz (H:=H) hb,h5];omega
  ·rw[hK]at m1;cases m1
theorem aer {c:Nat}{e aL:List Nat}{a a':Pool}(h:tY Pool.left (Pool.step H) c ids a e aL a')(hn:ids.Nodup):kg a a'/\(fB a->fB a')/\(∀j,j∉ids->a'.left j=a.left j)/\(∀j∈e,a'.left j=0)/\(∀j,a'.left j<=a.left j):=by
 induction h with
 |nil c a=>exact⟨kg.refl a,λh=>h,λ_ _=>rfl,λ_ h=>(by cases h),λ_=>zb _⟩
 |broke ids a=>exact⟨kg.refl a,λh=>h,λ_ _=>rfl,λ_ h=>(by cases h),λ_=>zb _⟩
 |ended h0 r ih=>
  rw[qa]at hn;obtain⟨i1,i2,i3,i4,i5⟩:=ih hn.2;refine⟨i1,i2,λj hj=>i3 j (λhh=>hj (by simp[hh])),λj hj=> ?_,i5⟩;rcases zt.1 hj with rfl|h1
  ·rw[i3 _ hn.1];exact h0
  ·exact i4 j h1
 |@step c i0 ais e0 bZ a0 b0 a1 h1 hs r ih=>
  obtain⟨i1,i2,i3,i4,i5⟩:=ih hn;have hl:=(Fz (W0:=default) (E:=λ_=>⟨0,0,none⟩) (P:=⟨0,0,[],[],0,0⟩) ⟨λ_=>0,0,0,0,0,0⟩ (Q4 _)).Eo hs;refine⟨(Qq hs).trans i1,λh=>i2 (h.step hs),λj hj=>(i3 j hj).trans (Az hs (λe=>hj (by simp[e]))),i4,λj=> ?_⟩;refine qf (i5 j) ?_;by_cases hj:j=i0
  ·subst hj;omega
  ·rw[Az hs hj];exact zb _
theorem aes {own n:Nat}{a a':Pool}(h:wQ Pool.left (Pool.step H) ids own n a a'):kg a a'/\(fB a->fB a')/\(∀j,j≠own->a'.left j=a.left j)/\a'.left own<=a.left own:=by
 rcases h with⟨_,rfl⟩|⟨_,m,h1,_⟩
 ·exact⟨kg.refl _,λh=>h,λ_ _=>rfl,zb _⟩
 ·obtain⟨i1,i2,i3,i4,_⟩:=Ic h1;exact⟨i1,i2,i3,by omega⟩
inductive AA (a:Pool)(ids:List Nat)(id:Nat):Pool->List Nat->Prop
 |busy {N:Nd} (hN:a.Ns[id]?=some N) (hb:N.ph.busy=true):AA a ids id a ids
 |none {N:Nd} (hN:a.Ns[id]?=some N) (hi:N.ph= .idle) (hk:jR N.T.live N.T.dh N.len N.au a.d=0):AA a ids id {a with Ns:=a.Ns.set id {N with sl:=0}} ids
 |start {N:Nd} {kind:Nat} (hN:a.Ns[id]?=some N) (hi:N.ph= .idle) (hk:jR N.T.live N.T.dh N.len N.au a.d=kind) (h0:kind≠0):AA a ids id {a with Ns:=a.Ns.set id (N.start kind)} (ids++[id])
def Qr (a:Pool)(id:Nat):Prop:=∃N,a.Ns[id]?=some N/\fI N.T.live N.T.dh N.len N.au a.d=true
inductive EB (p:Prop)(a:Pool)(ids:List Nat):Pool->List Nat->Prop
 |not:EB p a ids a ids
 |yes (hp:p) (hc:a.cop=none) (hd:a.d<5):EB p a ids {a with cop:=some (0,List.replicate (2^(a.d+1)) 0)} (ids++[32])
inductive zn (H:Nat->Nat):Pool->List Nat->Pool->Prop
 |nil (a:Pool):zn H a [] a
 |cons {a b c:Pool} {id:Nat} {l:List Nat} (h:Cw H a id b) (r:zn H b l c):zn H a (id::l) c
structure acs (H:Nat->Nat)(K:Nat)(a:Pool)(ids:List Nat)(id:Nat)(a':Pool)(aL:List Nat):Prop where
 ex:∃a1 bZ a2 aO a3 e1 oO a4,AA a ids id a1 bZ/\EB (Qr a id) a1 bZ a2 aO/\wQ Pool.left (Pool.step H) aO id (8*K) a2 a3/\tY Pool.left (Pool.step H) K aO a3 e1 oO a4/\zn H a4 (e1++iw Pool.left a4 oO) a'/\aL=iZ Pool.left a4 oO
structure Vr (a:Pool)(ids:List Nat)(own:Nat):Prop where
 dir:fB a
 jL:∀id,a.can id↔id∈ids
 nd:ids.Nodup
 some_:∀id∈ids,1<=a.left id
 sl:∀(i:Nat) (N:Nd),a.Ns[i]?=some N->i≠own->N.sl=0
theorem abd {a a':Pool}{pend:List Nat}(h:kX a ids (id::pend))(hs:Cw H a id a')(h5:a.d<=5)(h32:a.Ns.length<=32)(hd5:∀c,a.cop=some c->a.d<5):kX a' ids pend/\a'.d<=5/\a'.Ns.length<=32/\a'.ents.Perm a.ents/\(∀c,a'.cop=some c->a'.d<5):=by
 have hp2:∀d,d<=5->2^d<=32:=λd hd=>xa (n:=2) (by decide) hd;have hnp:id∉pend:=(qa.1 h.ndp).1
 have hcan:∀{b:Pool},(∀j,b.can j↔a.can j/\j≠id)->∀j,b.can j↔j∈ids\/j∈pend:=λhb j=>by
  rw[hb,h.jL];constructor
  ·rintro⟨h1|h1,h2⟩
   ·exact .inl h1
   ·rcases zt.1 h1 with h3|h3
    ·exact absurd h3 h2
    ·exact .inr h3
  ·rintro(h1|h1)
   ·exact⟨.inl h1,λe=>h.dis j h1 (by simp[e])⟩
   ·exact⟨.inr (by simp[h1]),λe=>hnp (e▸h1)⟩
 have mk:∀{b:Pool},fB b->(∀j,b.can j↔a.can j/\j≠id)->(∀j,j≠id->a.can j->b.left j=a.left j)->(∀(i:Nat) (N:Nd),b.Ns[i]?=some N->N.sl=0\/(i≠id/\a.Ns[i]?=some N))->kX b ids pend:=λhd hb hl hsl=>by
  refine⟨hd,hcan hb,h.nd,(qa.1 h.ndp).2,λi hi hip=>h.dis i hi (by simp[hip]),λj hj=> ?_,λj hj=> ?_,λi N hN hip=> ?_⟩
  ·rw[hl j (λe=>hnp (e▸hj)) ((h.jL j).2 (.inr (by simp[hj])))];exact h.lft j (by simp[hj])
  ·rw[hl j (λe=>h.dis j hj (by simp[e])) ((h.jL j).2 (.inl hj))];exact h.some_ j hj
  ·rcases hsl i N hN with h1|⟨h1,h2⟩
   ·exact h1
   ·exact h.sl i N h2 (by simp[h1,hip])
 cases hs with
 |take hc hl=>
  have hlt:=hd5 _ hc;have hD:=h.dir.take hc hl;refine⟨mk hD (λj=> ?_) (λj hj hcj=> ?_) (λi N hN=> ?_),by show a.d+1<=5;omega,h32,.refl _,λc hc=>by cases hc⟩
  ·unfold Pool.can;simp only;constructor
   ·rintro(h1|⟨_,_,c,h1⟩)
    ·refine⟨.inl h1,λe=> ?_⟩;obtain⟨N,h2,_⟩:=h1;have:=bJ h2;omega
    ·cases h1
   ·rintro⟨h1|⟨_,h2,_⟩,h3⟩
    ·exact .inl h1
    ·exact absurd h2 h3
  ·rcases hcj with⟨N,h1,_⟩|⟨_,h2,_⟩
   ·unfold Pool.left;simp only;rw[h1]
   ·exact absurd h2 hj
  ·by_cases hi:i=32
   ·have:=bJ hN;have h7:i<a.Ns.length:=this;omega
   ·exact .inr ⟨hi,hN⟩
 |@one _ N X hN hb hl ho hm hk he hx=>
  have hid:=bJ hN;have hget:=lG (N':=⟨N.pfx,N.au,0,0,X,.idle⟩) hid;refine⟨mk (h.dir.alike hN rfl rfl (λhbb=>by cases hbb)) (λj=> ?_) (λj hj hcj=> ?_) (λi Z hX=> ?_),h5,by simpa using h32,JO hN (by rw[he]),hd5⟩
  ·unfold Pool.can;simp only;rw[hget];by_cases hj:j=id
   ·subst hj;simp[Phase.busy]
   ·rw[if_neg hj];simp[hj]
  ·unfold Pool.left;simp only;rw[hget,if_neg hj]
  ·have jc:(a.Ns.set id _)[i]?=some Z:=hX;rw[hget]at jc;by_cases hi:i=id
   ·rw[if_pos hi]at jc;cases jc;exact .inl rfl
   ·rw[if_neg hi]at jc;exact .inr ⟨hi,jc⟩
 |@two _ N X Y hN hb hl ho hm hd hk hk2 he hx hy=>
  have hid:=bJ hN;have hD:=h.dir.X0 (N0:=⟨2*N.pfx,N.au+1,0,0,X,.idle⟩) (N1:=⟨2*N.pfx+1,N.au+1,0,0,Y,.idle⟩) hN hd ⟨rfl,rfl,rfl⟩ ⟨rfl,rfl,rfl⟩
  have hlen:(a.split id ⟨2*N.pfx,N.au+1,0,0,X,.idle⟩ ⟨2*N.pfx+1,N.au+1,0,0,Y,.idle⟩).Ns.length=a.Ns.length+1:=by unfold Pool.split;simp
  have Vp:a.Ns.length+1<=32:=by
   have:=hD.nodes;have h8:(a.split id ⟨2*N.pfx,N.au+1,0,0,X,.idle⟩ ⟨2*N.pfx+1,N.au+1,0,0,Y,.idle⟩).d=a.d:=rfl;rw[hlen,h8]at this;exact qf this (hp2 _ h5)
  have hget:∀i,(a.split id ⟨2*N.pfx,N.au+1,0,0,X,.idle⟩ ⟨2*N.pfx+1,N.au+1,0,0,Y,.idle⟩).Ns[i]?=if i=id then some ⟨2*N.pfx,N.au+1,0,0,X,.idle⟩else if i=a.Ns.length then some ⟨2*N.pfx+1,N.au+1,0,0,Y,.idle⟩else a.Ns[i]?:=λi=>by
   show(a.Ns.set id _++[_])[i]?=_;by_cases hi:i<a.Ns.length
   ·rw[Z2 (by simpa using hi),lG hid];by_cases hii:i=id
    ·rw[if_pos hii,if_pos hii]
    ·rw[if_neg hii,if_neg hii,if_neg (by omega)]
   ·rw[Z1 (by simpa using hi),qq,if_neg (by omega)];by_cases hii:i=a.Ns.length
    ·rw[if_pos hii,hii,ve];rfl
    ·rw[if_neg hii,yo (by simp;omega),yo (by omega)]
  have acu:(a.split id ⟨2*N.pfx,N.au+1,0,0,X,.idle⟩ ⟨2*N.pfx+1,N.au+1,0,0,Y,.idle⟩).cop.isSome=a.cop.isSome:=by unfold Pool.split;simp
  have hsome:∀o:Option (Nat×List Nat),(∃c,o=some c)↔o.isSome=true:=λo=>by cases o<;>simp
  refine⟨mk hD (λj=> ?_) (λj hj hcj=> ?_) (λi Z hZ=> ?_),h5,by rw[hlen];exact Vp, ?_,λc hc=>hd5 (a.cop.get ?_) ?_⟩
  ·unfold Pool.can;rw[hget,hsome,hsome,acu];by_cases hj:j=id
   ·subst hj;simp[Phase.busy]
   ·rw[if_neg hj];by_cases hj2:j=a.Ns.length
    ·rw[if_pos hj2,yo (by omega)];constructor
     ·rintro(⟨M,h1,h2⟩|⟨h1,_⟩)
      ·cases h1;cases h2
      ·cases h1
     ·rintro⟨⟨M,h1,h2⟩|⟨h1,h2,_⟩,h3⟩
      ·cases h1
      ·omega
    ·rw[if_neg hj2];exact⟨λhh=>⟨hh,hj⟩,λhh=>hh.1⟩
  ·unfold Pool.left;rw[hget,if_neg hj];rcases hcj with⟨M,h1,_⟩|⟨h1,h2,c,h3⟩
   ·rw[if_neg (λe=>by have:=bJ h1;omega),h1]
   ·subst h2;rw[if_neg (by omega),h1,h3]
    obtain⟨q,h4⟩:∃q,(a.split id ⟨2*N.pfx,N.au+1,0,0,X,.idle⟩ ⟨2*N.pfx+1,N.au+1,0,0,Y,.idle⟩).cop=some (c.1,q):=by unfold Pool.split;simp only;rw[h3];exact⟨_,rfl⟩
    have h5:(a.split id ⟨2*N.pfx,N.au+1,0,0,X,.idle⟩ ⟨2*N.pfx+1,N.au+1,0,0,Y,.idle⟩).l.length=a.l.length:=by unfold Pool.split;simp only;rw[mY]
    rw[h4];simp only;rw[h5]
  ·rw[hget]at hZ;by_cases hi:i=id
   ·rw[if_pos hi]at hZ;cases hZ;exact .inl rfl
   ·rw[if_neg hi]at hZ;by_cases hi2:i=a.Ns.length
    ·rw[if_pos hi2]at hZ;cases hZ;exact .inl rfl
    ·rw[if_neg hi2]at hZ;exact .inr ⟨hi,hZ⟩
  ·show((a.Ns.set id _++[_]).flatMap Nd.ents).Perm (a.Ns.flatMap Nd.ents);obtain⟨B,B',b1,b2⟩:=sP (N':=⟨2*N.pfx,N.au+1,0,0,X,.idle⟩) hN;rw[ka,b2,b1,<-he];simp only[yn,List.flatMap_nil,yy,qe];exact(List.Perm.append_left _ (YY)).append_left _
  ·have:(a.split id ⟨2*N.pfx,N.au+1,0,0,X,.idle⟩ ⟨2*N.pfx+1,N.au+1,0,0,Y,.idle⟩).cop.isSome=true:=by rw[hc];rfl
   rw[acu]at this;exact this
  ·exact(Option.some_get _).symm
end
section
variable {N : Nd} {a a1 : Pool} {i own : Nat} {H : Nat -> Nat} {F G0 ids bZ : List Nat} {W0 w w0 : World} {E : Nat -> Addr} {C : iW} {st : lX}
structure EC (a:Pool)(ids:List Nat)(own:Nat):Prop where
 pre:Vr a ids own
 slo:∀N:Nd,a.Ns[own]?=some N->N.ph.busy=false->N.sl=0
 sl8:∀N:Nd,a.Ns[own]?=some N->N.sl<=8
theorem TA (h:N.ph.busy=false):N.ph= .idle:=by
 cases hp:N.ph with
 |idle=>rfl
 |_=>rw[hp]at h;cases h
theorem Ie (hN:a.Ns[i]?=some N):a.can i↔N.ph.busy=true:=by
 unfold Pool.can;rw[hN];simp
theorem X7 (hN:a.Ns[i]?=some N):a.left i=N.left:=by unfold Pool.left;rw[hN]
theorem aeu {l t:Int}{g lo gl:Nat}(h:jR l t g lo gl=3):lo<gl:=by
 unfold jR at h;split at h
 ·cases h
 ·split at h
  ·cases h
  ·split at h
   ·next h1=>exact h1.2
   ·split at h<;>cases h
theorem TB (h:Vr a ids own)(ho:∀N,a.Ns[own]?=some N->dY H N)(hb:AA a ids own a1 bZ):EC a1 bZ own/\a1.d=a.d/\a1.Ns.length=a.Ns.length/\a1.cop=a.cop/\a1.ents=a.ents:=by
 cases hb with
 |@busy N hN hb=>exact⟨⟨h,λN' hN' hb'=>(by rw[hN]at hN';cases hN';rw[hb]at hb';cases hb'),λN' hN'=>(ho N' hN').sl⟩,rfl,rfl,rfl,rfl⟩
 |@none N hN hi hk=>
  have hid:=bJ hN;have hget:=lG (N':={N with sl:=0}) hid;refine⟨⟨⟨h.dir.alike hN rfl rfl (λhb hk=>h.dir.split own N hN hb hk),λj=> ?_,h.nd,λj hj=> ?_,λi X hX hi'=> ?_⟩,λX hX hb=> ?_,λX hX=> ?_⟩,rfl,by simp,rfl, ?_⟩
  ·rw[<-h.jL];unfold Pool.can;simp only;rw[hget];by_cases hj:j=own
   ·subst hj;rw[if_pos rfl,hN];simp
   ·rw[if_neg hj]
  ·have:=h.some_ j hj;unfold Pool.left at this|-;simp only;rw[hget];by_cases hj:j=own
   ·subst hj;rw[if_pos rfl];rw[hN]at this;exact this
   ·rw[if_neg hj];exact this
  ·have jc:(a.Ns.set own _)[i]?=some X:=hX;rw[hget,if_neg hi']at jc;exact h.sl i X jc hi'
  ·have jc:(a.Ns.set own _)[own]?=some X:=hX;rw[hget,if_pos rfl]at jc;cases jc;rfl
  ·have jc:(a.Ns.set own _)[own]?=some X:=hX;rw[hget,if_pos rfl]at jc;cases jc;exact Q4 _
  ·obtain⟨B,B',b1,b2⟩:=sP (N':={N with sl:=0}) hN;show(a.Ns.set own _).flatMap Nd.ents=a.Ns.flatMap Nd.ents;rw[b1,b2];rfl
 |@start N kind hN hi hk h0=>
  have hid:=bJ hN;have hO:=ho N hN;have hget:=lG (N':=N.start kind) hid
  have hnb:N.ph.busy=false:=by rw[hi];rfl
  have hnot:own∉ids:=λhh=>by
   have:=(h.jL own).2 hh;rw[Ie hN,hnb]at this;cases this
  have hbs:(N.start kind).ph.busy=true:=rfl
  have hE:(N.start kind).ents=N.ents:=by unfold Nd.ents Nd.start;rw[hi];rfl
  refine⟨⟨⟨h.dir.alike hN rfl rfl (λ_ hk3=> ?_),λj=> ?_, ?_,λj hj=> ?_,λi X hX hi'=> ?_⟩,λX hX hb=> ?_,λX hX=> ?_⟩,rfl,by simp,rfl, ?_⟩
  ·have agx:kind=3:=hk3;rw[agx]at hk;exact aeu hk
  ·rw[Zs,<-h.jL];unfold Pool.can;simp only;rw[hget];by_cases hj:j=own
   ·subst hj;rw[if_pos rfl,hN];simp[hbs]
   ·rw[if_neg hj];simp[hj]
  ·rw[yq];exact⟨h.nd,by simp,λx hx y hy=>by simp at hy;subst hy;exact λe=>hnot (e▸hx)⟩
  ·unfold Pool.left;simp only;rw[hget];by_cases hj2:j=own
   ·rw[if_pos hj2];show 1<=(N.start kind).left;have:=hO.pw.pos;show 1<=N.len+_;omega
   ·rw[if_neg hj2];rcases Zs.1 hj with h1|h1
    ·exact h.some_ j h1
    ·simp at h1;exact absurd h1 hj2
  ·have jc:(a.Ns.set own _)[i]?=some X:=hX;rw[hget,if_neg hi']at jc;exact h.sl i X jc hi'
  ·have jc:(a.Ns.set own _)[own]?=some X:=hX;rw[hget,if_pos rfl]at jc;cases jc;rw[hbs]at hb;cases hb
  ·have jc:(a.Ns.set own _)[own]?=some X:=hX;rw[hget,if_pos rfl]at jc;cases jc;exact zb 8
  ·obtain⟨B,B',b1,b2⟩:=sP (N':=N.start kind) hN;show(a.Ns.set own _).flatMap Nd.ents=a.Ns.flatMap Nd.ents;rw[b1,b2,hE]
theorem adj {p:Prop}(h:EC a ids own)(h32:a.Ns.length<=32)(hd:EB p a ids a1 bZ):EC a1 bZ own/\a1.d=a.d/\a1.Ns=a.Ns/\(∀c,a1.cop=some c->a.cop=some c\/a.d<5):=by
 cases hd with
 |not=>exact⟨h,rfl,rfl,λc hc=> .inl hc⟩
 |yes _ hc hd=>
  have h0:a.Ns[32]?=none:=yo h32
  have hnot:32∉ids:=λhh=>by
   rcases(h.pre.jL 32).2 hh with⟨N,h1,_⟩|⟨_,_,c,h2⟩
   ·rw[h0]at h1;cases h1
   ·rw[hc]at h2;cases h2
  refine⟨⟨⟨h.pre.dir.double hc,λj=> ?_, ?_,λj hj=> ?_,h.pre.sl⟩,h.slo,h.sl8⟩,rfl,rfl,λc hcc=> .inr hd⟩
  ·rw[Zs,<-h.pre.jL];unfold Pool.can;simp only;rw[hc];constructor
   ·rintro(h1|⟨_,h2,_⟩)
    ·exact .inl (.inl h1)
    ·exact .inr (by simp[h2])
   ·rintro((h1|⟨_,_,c,h3⟩)|h1)
    ·exact .inl h1
    ·cases h3
    ·simp at h1;subst h1;exact .inr ⟨h0,rfl,_,rfl⟩
  ·rw[yq];exact⟨h.pre.nd,by simp,λx hx y hy=>by simp at hy;subst hy;exact λe=>hnot (e▸hx)⟩
  ·by_cases hj2:j=32
   ·subst hj2;unfold Pool.left;simp only;rw[h0]
    show 1<=if 32=32 then a.l.length-0 else 0
    rw[if_pos rfl,h.pre.dir.len];have:=pos2 a.d;omega
   ·have hj':j∈ids:=by
     rcases Zs.1 hj with h1|h1
     ·exact h1
     ·simp at h1;exact absurd h1 hj2
    have:=h.pre.some_ j hj';unfold Pool.left at this|-;simp only
    cases hN:a.Ns[j]? with
    |some N=>rw[hN]at this;exact this
    |none=>rw[hN,hc]at this;simp at this
theorem adk {K:Nat}(hK:1<=K){a3 a4:Pool}{e1 oO:List Nat}(h:EC a ids own)(ho:wQ Pool.left (Pool.step H) ids own (8*K) a a3)(hO:tY Pool.left (Pool.step H) K ids a3 e1 oO a4):
  kX a4 (iZ Pool.left a4 oO) (e1++iw Pool.left a4 oO)/\kg a a4:=by
 obtain⟨o1,o2,o3,o4⟩:=aes ho;obtain⟨t1,t2,t3,t4,t5⟩:=aer hO h.pre.nd;have Ay:=sM hO;have hS:=o1.trans t1;have hnd:=h.pre.nd;rw[Ay,yq]at hnd;obtain⟨n1,n2,n3⟩:=hnd
 have hlive:∀j,j∈iZ Pool.left a4 oO↔j∈oO/\a4.left j≠0:=λj=>by unfold iZ;simp
 have hdone:∀j,j∈iw Pool.left a4 oO↔j∈oO/\a4.left j=0:=λj=>by unfold iw;simp
 refine⟨⟨t2 (o2 h.pre.dir),λj=> ?_,n2.filter _, ?_,λi hi hp=> ?_,λj hj=> ?_,λj hj=> ?_,λi N hN hp=> ?_⟩,hS⟩
 ·rw[hS.jL,h.pre.jL,Ay,Zs,Zs,hlive,hdone]
  by_cases h0:a4.left j=0<;>simp[h0]<;>by_cases h1:j∈e1<;>simp[h1]
 ·rw[yq];exact⟨n1,n2.filter _,λx hx y hy=>n3 x hx y ((hdone y).1 hy).1⟩
 ·rw[hlive]at hi;rcases Zs.1 hp with h1|h1
  ·exact n3 i h1 i hi.1 rfl
  ·exact hi.2 ((hdone i).1 h1).2
 ·rcases Zs.1 hj with h1|h1
  ·exact t4 j h1
  ·exact((hdone j).1 h1).2
 ·have:=((hlive j).1 hj).2;omega
 ·obtain⟨N3,m1,m2,m3⟩:=t1.lW i N hN;obtain⟨N0,k1,k2,k3⟩:=o1.lW i N3 m1;by_cases hi:i=own
  ·subst hi;rcases ho with⟨h1,rfl⟩|⟨h1,m,hs,hm,hor⟩
   ·have hnb:N0.ph.busy=false:=by
     cases hb:N0.ph.busy with
     |false=>rfl
     |true=>exact absurd ((h.pre.jL i).1 ((Ie k1).2 hb)) h1
    have:=h.slo N0 k1 hnb;omega
   ·obtain⟨_,_,_,_,s5⟩:=Ic hs;have h5:=s5 i N0 N3 k1 m1 rfl;have h8:=h.sl8 N0 k1;rcases hor with h6|h6
    ·omega
    ·exfalso;apply hp;have h7:=t5 i;rw[Ay]at h1;rcases Zs.1 h1 with h9|h9
     ·exact yi _ h9
     ·exact jj _ ((hdone i).2 ⟨h9,by omega⟩)
  ·have:=h.pre.sl i N0 k1 hi;omega
theorem aev {pend:List Nat}(h:kX a ids pend)(h5:∀c,a.cop=some c->a.d<5):∀i∈ids,i≠a.Ns.length:=λi hi=>by
 rcases(h.jL i).2 (.inl hi)with⟨N,h1,_⟩|⟨_,rfl,c,h2⟩
 ·have:=bJ h1;omega
 ·have h3:=h5 c h2;have h4:=h.dir.nodes;have h6:2^a.d<=2^4:=xa (by decide) (by omega);omega
theorem aD.bounds (h:aD W0 E H C w0 G0 w F st):st.a.d<=5/\st.a.Ns.length<=32/\(∀c,st.a.cop=some c->st.a.d<5)/\(∀(i:Nat) (N:Nd),st.a.Ns[i]?=some N->dY H N):=by
 obtain⟨Fs,hF,hp⟩:=h.aF.pool;exact⟨hp.dir.le,hp.zk,λc hc=>(hp.cop c.1 c.2 hc).fresh.le,λi N hN=>(hp.lW i N hN).2⟩
theorem abe (h:aD W0 E H C w0 G0 w F st)(id:Nat)(pend:List Nat)(hi:kX st.a st.ids (id::pend)):Calls Tryz.prog 133 #[bg C.mb,nI id] w λe w'=>e= .returned undef/\vD W0 E H C w0 G0 st id w':=by
 obtain⟨b1,b2,b3,b4⟩:=h.bounds;have hl:=hi.lft id (by simp);rcases(hi.jL id).2 (.inr (by simp))with⟨N,hN,hb⟩|⟨hN,rfl,c,hc⟩
 ·rw[X7 hN]at hl;by_cases hm:N.many=2
  ·exact Qp h hi.dir (aev hi b3) id N hN hb hl hm
  ·exact Qo h id N hN hb hl (by unfold Nd.many at hm|-;split at hm<;>simp_all)
 ·refine NV h c hc ?_;unfold Pool.left at hl;rw[hN,hc]at hl;have hl2:(if 32=32 then st.a.l.length-c.1 else 0)=0:=hl;rw[if_pos rfl]at hl2;have:=(hi.dir.cop c hc).2.1;omega
end
