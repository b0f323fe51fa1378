/- What is done behind a write to a node: jobs begin, are worked at, are ended; what that leaves of a core's nodes. No statement of the claim. -/
import Derived.Test.YtgkeameopnpinaaGreatDoorCoCK
import Derived.Test.YtgkeameopnpinaaGreatDoorSqM
import Derived.Test.YtgkeameopnpinaaGreatDoorLaneP
namespace Go.Proofs.YtgkeameopnpinaaGreatDoor
open Go.RowKit bY
section
variable {Ns : List Nd} {id : Nat} {N N' : Nd} {H : Nat → Nat} {ids : List Nat}
def Pool.ents (a:Pool):List av:=a.Ns.flatMap Nd.ents
def Pool.groups (a:Pool):Nat:=(a.Ns.map Nd.groups).sum
theorem qC (hN:Ns[id]?=some N):∃B B',Ns.flatMap Nd.ents=B++(N.ents++B')∧(Ns.set id N').flatMap Nd.ents=B++(N'.ents++B'):=by
 obtain⟨h1,h2⟩:=yZ hN;refine⟨(Ns.take id).flatMap Nd.ents,(Ns.drop (id+1)).flatMap Nd.ents, ?_, ?_⟩
 ·have h3:Ns.flatMap Nd.ents=(Ns.take id++N::Ns.drop (id+1)).flatMap Nd.ents:=by rw[←h1]
  rw[h3];simp
 ·rw[h2 N'];simp
theorem Gd (hN:Ns[id]?=some N)(hp:N'.ents.Perm N.ents):((Ns.set id N').flatMap Nd.ents).Perm (Ns.flatMap Nd.ents):=by
 obtain⟨B,B',h1,h2⟩:=qC (N':=N') hN;rw[h1,h2];exact(hp.append_right B').append_left B
theorem Q9 (hN:Ns[id]?=some N):((Ns.set id N').map Nd.groups).sum+N.groups=(Ns.map Nd.groups).sum+N'.groups:=by
 obtain⟨h1,h2⟩:=yZ hN
 have h3:(Ns.map Nd.groups).sum=((Ns.take id++N::Ns.drop (id+1)).map Nd.groups).sum:=by rw[←h1]
 rw[h3,h2 N'];simp only[List.map_append,List.map_cons,List.sum_append,List.sum_cons];omega
theorem jO (hid:id<Ns.length)(i:Nat):(Ns.set id N')[i]?=if i=id then some N' else Ns[i]?:=by
 rw[List.getElem?_set];by_cases h:id=i
 ·rw[if_pos h,if_pos hid,if_pos h.symm]
 ·rw[if_neg h,if_neg (fun e=>h e.symm)]
structure jk (a a':Pool):Prop where
 len:a'.Ns.length=a.Ns.length
 cop:a'.cop.isSome=a.cop.isSome
 iR:∀j,a'.can j↔a.can j
 ents:a'.ents.Perm a.ents
 groups:a'.groups=a.groups
 d:a'.d=a.d
 l:a'.l=a.l
 kL:∀(i:Nat) (N':Nd),a'.Ns[i]?=some N'→∃N,a.Ns[i]?=some N∧Like N N'∧N'.sl≤N.sl
theorem jk.refl (a:Pool):jk a a:=⟨rfl,rfl,fun _=>Iff.rfl,.refl _,rfl,rfl,rfl,fun _ N h=>⟨N,h,Like.refl N,Nat.le_refl _⟩⟩
theorem jk.trans {a b c:Pool}(h:jk a b)(k:jk b c):jk a c:=
 ⟨k.len.trans h.len,k.cop.trans h.cop,fun j=>(k.iR j).trans (h.iR j),k.ents.trans h.ents,k.groups.trans h.groups,k.d.trans h.d,k.l.trans h.l,fun i N' hN=>by
  obtain⟨N1,h1,h2,h3⟩:=k.kL i N' hN;obtain⟨N,h4,h5,h6⟩:=h.kL i N1 h1
  exact⟨N,h4,h5.trans h2,Nat.le_trans h3 h6⟩⟩
theorem Pm {H:Nat→Nat}(hb:N.ph.busy=true):N.step.sl=N.sl-1:=by
 unfold Nd.step
 cases hp:N.ph with
 |idle=>rw[hp]at hb;cases hb
 |_=>rfl
theorem ML {a a':Pool}(hs:a.step H id a'):jk a a':=by
 rcases hs with⟨N,hN,hb,hl,ho,rfl⟩|⟨hN,rfl,c,hc,hl,rfl⟩
 ·have hid:=bC hN;have hL:=qm N;refine⟨by simp,rfl,fun j=> ?_,Gd hN (Jg ho hl), ?_,rfl,rfl,fun i X hX=> ?_⟩
  ·unfold Pool.can;simp only;rw[jO hid];by_cases hj:j=id
   ·subst hj;rw[if_pos rfl,hN];simp[hL.busy]
   ·rw[if_neg hj]
  ·have:=Q9 (N':=N.step) hN;rw[hL.groups]at this;show((a.Ns.set id N.step).map Nd.groups).sum=(a.Ns.map Nd.groups).sum;omega
  ·have ig:(a.Ns.set id N.step)[i]?=some X:=hX;rw[jO hid]at ig;by_cases hi:i=id
   ·subst hi;rw[if_pos rfl]at ig;cases ig;exact⟨N,hN,hL,by rw[Pm (H:=H) hb];omega⟩
   ·rw[if_neg hi]at ig;exact⟨X,ig,Like.refl X,Nat.le_refl _⟩
 ·refine⟨rfl,by show(some _).isSome=a.cop.isSome;rw[hc];rfl,fun j=> ?_,.refl _,rfl,rfl,rfl,fun i X hX=>⟨X,hX,Like.refl X,Nat.le_refl _⟩⟩;unfold Pool.can;simp only;constructor
  ·rintro(h|⟨h1,h2,c',h3⟩)
   ·exact .inl h
   ·exact .inr ⟨h1,h2,c,hc⟩
  ·rintro(h|⟨h1,h2,c',h3⟩)
   ·exact .inl h
   ·exact .inr ⟨h1,h2,_,rfl⟩
theorem yw {a a':Pool}(hs:a.step H id a'){j:Nat}(hj:j≠id):a'.left j=a.left j:=(CK (W0:=default) (E:=fun _=>⟨0,0,none⟩) (P:=⟨0,0,[],[],0,0⟩) ⟨fun _=>0,0,0,0,0,0⟩ (Nat.zero_le _)).Ju hs hj
structure jE (a:Pool)(ids pend:List Nat):Prop where
 dir:d9 a
 iR:∀id,a.can id↔id∈ids∨id∈pend
 nd:ids.Nodup
 ndp:pend.Nodup
 dis:∀i∈ids,i∉pend
 lft:∀id∈pend,a.left id=0
 some_:∀id∈ids,1≤a.left id
 sl:∀(i:Nat) (N:Nd),a.Ns[i]?=some N→i∉pend→N.sl=0
theorem jk.nd {a a':Pool}(h:jk a a'){i:Nat}(hN:a.Ns[i]?=some N):∃N',a'.Ns[i]?=some N'∧Like N N'∧N'.sl≤N.sl:=by
 obtain⟨N',hN'⟩:∃N',a'.Ns[i]?=some N':=⟨_,List.getElem?_eq_getElem (by rw[h.len];exact bC hN)⟩;obtain⟨N2,h1,h2,h3⟩:=h.kL i N' hN';rw[hN]at h1;cases h1;exact⟨N',hN',h2,h3⟩
theorem Ev:∀{n:Nat} {a a':Pool},Hg (Pool.step H) id n a a'→jk a a'∧(d9 a→d9 a')∧(∀j,j≠id→a'.left j=a.left j)∧a'.left id+n=a.left id∧(∀i N N',a.Ns[i]?=some N→a'.Ns[i]?=some N'→i=id→N'.sl=N.sl-n)
 |0,a,_,h=>by
  cases h;exact⟨jk.refl a,fun h=>h,fun _ _=>rfl,rfl,fun i N N' h1 h2 _=>by rw[h1]at h2;cases h2;rfl⟩
 |n+1,a,a',⟨b,h1,h2⟩=>by
  obtain⟨i1,i2,i3,i4,i5⟩:=Ev h1;have hl:a'.left id+1=b.left id:=(CK (W0:=default) (E:=fun _=>⟨0,0,none⟩) (P:=⟨0,0,[],[],0,0⟩) ⟨fun _=>0,0,0,0,0,0⟩ (Nat.zero_le _)).BO h2;refine⟨i1.trans (ML h2),fun h=>(i2 h).step h2,fun j hj=>(yw h2 hj).trans (i3 j hj),by omega,fun i N N' hN hN' hi=> ?_⟩;subst hi;obtain⟨M,m1,m2,m3⟩:=(ML h2).kL i N' hN';have h5:=i5 i N M hN m1 rfl;rcases h2 with⟨K,hK,hb,_,_,rfl⟩|⟨hK,_⟩
  ·rw[hK]at m1;cases m1;have hX:(b.Ns.set i _)[i]?=some N':=hN';rw[jO (bC hK),if_pos rfl]at hX;cases hX;rw[Pm (H:=H) hb,h5];omega
  ·rw[hK]at m1;cases m1
theorem aaY {c:Nat}{e aJ:List Nat}{a a':Pool}(h:rC Pool.left (Pool.step H) c ids a e aJ a')(hn:ids.Nodup):jk a a'∧(d9 a→d9 a')∧(∀j,j∉ids→a'.left j=a.left j)∧(∀j∈e,a'.left j=0)∧(∀j,a'.left j≤a.left j):=by
 induction h with
 |nil c a=>exact⟨jk.refl a,fun h=>h,fun _ _=>rfl,fun _ h=>(by cases h),fun _=>Nat.le_refl _⟩
 |broke ids a=>exact⟨jk.refl a,fun h=>h,fun _ _=>rfl,fun _ h=>(by cases h),fun _=>Nat.le_refl _⟩
 |ended h0 r ih=>
  rw[List.nodup_cons]at hn;obtain⟨i1,i2,i3,i4,i5⟩:=ih hn.2;refine⟨i1,i2,fun j hj=>i3 j (fun hh=>hj (by simp[hh])),fun j hj=> ?_,i5⟩;rcases List.mem_cons.1 hj with rfl|h1
  ·rw[i3 _ hn.1];exact h0
  ·exact i4 j h1
 |@step c i0 ae6 e0 bQ a0 b0 a1 h1 hs r ih=>
  obtain⟨i1,i2,i3,i4,i5⟩:=ih hn;have hl:=(CK (W0:=default) (E:=fun _=>⟨0,0,none⟩) (P:=⟨0,0,[],[],0,0⟩) ⟨fun _=>0,0,0,0,0,0⟩ (Nat.zero_le _)).BO hs;refine⟨(ML hs).trans i1,fun h=>i2 (h.step hs),fun j hj=>(i3 j hj).trans (yw hs (fun e=>hj (by simp[e]))),i4,fun j=> ?_⟩;refine Nat.le_trans (i5 j) ?_;by_cases hj:j=i0
  ·subst hj;omega
  ·rw[yw hs hj];exact Nat.le_refl _
theorem aaZ {own n:Nat}{a a':Pool}(h:ug Pool.left (Pool.step H) ids own n a a'):jk a a'∧(d9 a→d9 a')∧(∀j,j≠own→a'.left j=a.left j)∧a'.left own≤a.left own:=by
 rcases h with⟨_,rfl⟩|⟨_,m,h1,_⟩
 ·exact⟨jk.refl _,fun h=>h,fun _ _=>rfl,Nat.le_refl _⟩
 ·obtain⟨i1,i2,i3,i4,_⟩:=Ev h1;exact⟨i1,i2,i3,by omega⟩
inductive yx (a:Pool)(ids:List Nat)(id:Nat):Pool→List Nat→Prop
 |busy {N:Nd} (hN:a.Ns[id]?=some N) (hb:N.ph.busy=true):yx a ids id a ids
 |none {N:Nd} (hN:a.Ns[id]?=some N) (hi:N.ph= .idle) (hk:iY N.T.live N.T.bS N.len N.au a.d=0):yx a ids id {a with Ns:=a.Ns.set id {N with sl:=0}} ids
 |start {N:Nd} {kind:Nat} (hN:a.Ns[id]?=some N) (hi:N.ph= .idle) (hk:iY N.T.live N.T.bS N.len N.au a.d=kind) (h0:kind≠0):yx a ids id {a with Ns:=a.Ns.set id (N.start kind)} (ids++[id])
def MN (a:Pool)(id:Nat):Prop:=∃N,a.Ns[id]?=some N∧eG N.T.live N.T.bS N.len N.au a.d=true
inductive Ce (p:Prop)(a:Pool)(ids:List Nat):Pool→List Nat→Prop
 |not:Ce p a ids a ids
 |yes (hp:p) (hc:a.cop=none) (hd:a.d<5):Ce p a ids {a with cop:=some (0,List.replicate (2^(a.d+1)) 0)} (ids++[32])
inductive wH (H:Nat→Nat):Pool→List Nat→Pool→Prop
 |nil (a:Pool):wH H a [] a
 |cons {a b c:Pool} {id:Nat} {l:List Nat} (h:zS H a id b) (r:wH H b l c):wH H a (id::l) c
structure YJ (H:Nat→Nat)(K:Nat)(a:Pool)(ids:List Nat)(id:Nat)(a':Pool)(aJ:List Nat):Prop where
 ex:∃a1 bQ a2 aN a3 e1 mP a4,yx a ids id a1 bQ∧Ce (MN a id) a1 bQ a2 aN∧ug Pool.left (Pool.step H) aN id (8*K) a2 a3∧rC Pool.left (Pool.step H) K aN a3 e1 mP a4∧wH H a4 (e1++fO Pool.left a4 mP) a'∧aJ=gY Pool.left a4 mP
structure Ra (a:Pool)(ids:List Nat)(own:Nat):Prop where
 dir:d9 a
 iR:∀id,a.can id↔id∈ids
 nd:ids.Nodup
 some_:∀id∈ids,1≤a.left id
 sl:∀(i:Nat) (N:Nd),a.Ns[i]?=some N→i≠own→N.sl=0
theorem Xk {a a':Pool}{pend:List Nat}(h:jE a ids (id::pend))(hs:zS H a id a')(h5:a.d≤5)(h32:a.Ns.length≤32)(hd5:∀c,a.cop=some c→a.d<5):jE a' ids pend∧a'.d≤5∧a'.Ns.length≤32∧a'.ents.Perm a.ents∧(∀c,a'.cop=some c→a'.d<5):=by
 have hp2:∀d,d≤5→2^d≤32:=fun d hd=>Nat.pow_le_pow_right (n:=2) (by decide) hd;have hnp:id∉pend:=(List.nodup_cons.1 h.ndp).1
 have hcan:∀{b:Pool},(∀j,b.can j↔a.can j∧j≠id)→∀j,b.can j↔j∈ids∨j∈pend:=fun hb j=>by
  rw[hb,h.iR];constructor
  ·rintro⟨h1|h1,h2⟩
   ·exact .inl h1
   ·rcases List.mem_cons.1 h1 with h3|h3
    ·exact absurd h3 h2
    ·exact .inr h3
  ·rintro(h1|h1)
   ·exact⟨.inl h1,fun e=>h.dis j h1 (by simp[e])⟩
   ·exact⟨.inr (by simp[h1]),fun e=>hnp (e▸h1)⟩
 have mk:∀{b:Pool},d9 b→(∀j,b.can j↔a.can j∧j≠id)→(∀j,j≠id→a.can j→b.left j=a.left j)→(∀(i:Nat) (N:Nd),b.Ns[i]?=some N→N.sl=0∨(i≠id∧a.Ns[i]?=some N))→jE b ids pend:=fun hd hb hl hsl=>by
  refine⟨hd,hcan hb,h.nd,(List.nodup_cons.1 h.ndp).2,fun i hi hip=>h.dis i hi (by simp[hip]),fun j hj=> ?_,fun j hj=> ?_,fun i N hN hip=> ?_⟩
  ·rw[hl j (fun e=>hnp (e▸hj)) ((h.iR j).2 (.inr (by simp[hj])))];exact h.lft j (by simp[hj])
  ·rw[hl j (fun e=>h.dis j hj (by simp[e])) ((h.iR j).2 (.inl hj))];exact h.some_ j hj
  ·rcases hsl i N hN with h1|⟨h1,h2⟩
   ·exact h1
   ·exact h.sl i N h2 (by simp[h1,hip])
 cases hs with
 |take hc hl=>
  have hlt:=hd5 _ hc;have hD:=h.dir.take hc hl;refine⟨mk hD (fun j=> ?_) (fun j hj hcj=> ?_) (fun i N hN=> ?_),by show a.d+1≤5;omega,h32,.refl _,fun c hc=>by cases hc⟩
  ·unfold Pool.can;simp only;constructor
   ·rintro(h1|⟨_,_,c,h1⟩)
    ·refine⟨.inl h1,fun e=> ?_⟩;obtain⟨N,h2,_⟩:=h1;have:=bC h2;omega
    ·cases h1
   ·rintro⟨h1|⟨_,h2,_⟩,h3⟩
    ·exact .inl h1
    ·exact absurd h2 h3
  ·rcases hcj with⟨N,h1,_⟩|⟨_,h2,_⟩
   ·unfold Pool.left;simp only;rw[h1]
   ·exact absurd h2 hj
  ·by_cases hi:i=32
   ·have:=bC hN;have h7:i<a.Ns.length:=this;omega
   ·exact .inr ⟨hi,hN⟩
 |@one _ N X hN hb hl ho hm hk he hx=>
  have hid:=bC hN;have hget:=jO (N':=⟨N.pfx,N.au,0,0,X,.idle⟩) hid;refine⟨mk (h.dir.alike hN rfl rfl (fun hbb=>by cases hbb)) (fun j=> ?_) (fun j hj hcj=> ?_) (fun i Z hX=> ?_),h5,by simpa using h32,Gd hN (by rw[he]),hd5⟩
  ·unfold Pool.can;simp only;rw[hget];by_cases hj:j=id
   ·subst hj;simp[Phase.busy]
   ·rw[if_neg hj];simp[hj]
  ·unfold Pool.left;simp only;rw[hget,if_neg hj]
  ·have ig:(a.Ns.set id _)[i]?=some Z:=hX;rw[hget]at ig;by_cases hi:i=id
   ·rw[if_pos hi]at ig;cases ig;exact .inl rfl
   ·rw[if_neg hi]at ig;exact .inr ⟨hi,ig⟩
 |@two _ N X Y hN hb hl ho hm hd hk hk2 he hx hy=>
  have hid:=bC hN;have hD:=h.dir.TU (N0:=⟨2*N.pfx,N.au+1,0,0,X,.idle⟩) (N1:=⟨2*N.pfx+1,N.au+1,0,0,Y,.idle⟩) hN hd ⟨rfl,rfl,rfl⟩ ⟨rfl,rfl,rfl⟩
  have hlen:(a.split id ⟨2*N.pfx,N.au+1,0,0,X,.idle⟩ ⟨2*N.pfx+1,N.au+1,0,0,Y,.idle⟩).Ns.length=a.Ns.length+1:=by unfold Pool.split;simp
  have Q8:a.Ns.length+1≤32:=by
   have:=hD.nodes;have h8:(a.split id ⟨2*N.pfx,N.au+1,0,0,X,.idle⟩ ⟨2*N.pfx+1,N.au+1,0,0,Y,.idle⟩).d=a.d:=rfl;rw[hlen,h8]at this;exact Nat.le_trans this (hp2 _ h5)
  have hget:∀i,(a.split id ⟨2*N.pfx,N.au+1,0,0,X,.idle⟩ ⟨2*N.pfx+1,N.au+1,0,0,Y,.idle⟩).Ns[i]?=if i=id then some ⟨2*N.pfx,N.au+1,0,0,X,.idle⟩else if i=a.Ns.length then some ⟨2*N.pfx+1,N.au+1,0,0,Y,.idle⟩else a.Ns[i]?:=fun i=>by
   show(a.Ns.set id _++[_])[i]?=_;by_cases hi:i<a.Ns.length
   ·rw[List.getElem?_append_left (by simpa using hi),jO hid];by_cases hii:i=id
    ·rw[if_pos hii,if_pos hii]
    ·rw[if_neg hii,if_neg hii,if_neg (by omega)]
   ·rw[List.getElem?_append_right (by simpa using hi),List.length_set,if_neg (by omega)];by_cases hii:i=a.Ns.length
    ·rw[if_pos hii,hii,Nat.sub_self];rfl
    ·rw[if_neg hii,List.getElem?_eq_none (by simp;omega),List.getElem?_eq_none (by omega)]
  have YK:(a.split id ⟨2*N.pfx,N.au+1,0,0,X,.idle⟩ ⟨2*N.pfx+1,N.au+1,0,0,Y,.idle⟩).cop.isSome=a.cop.isSome:=by unfold Pool.split;simp
  have hsome:∀o:Option (Nat×List Nat),(∃c,o=some c)↔o.isSome=true:=fun o=>by cases o<;>simp
  refine⟨mk hD (fun j=> ?_) (fun j hj hcj=> ?_) (fun i Z hZ=> ?_),h5,by rw[hlen];exact Q8, ?_,fun c hc=>hd5 (a.cop.get ?_) ?_⟩
  ·unfold Pool.can;rw[hget,hsome,hsome,YK];by_cases hj:j=id
   ·subst hj;simp[Phase.busy]
   ·rw[if_neg hj];by_cases hj2:j=a.Ns.length
    ·rw[if_pos hj2,List.getElem?_eq_none (by omega)];constructor
     ·rintro(⟨M,h1,h2⟩|⟨h1,_⟩)
      ·cases h1;cases h2
      ·cases h1
     ·rintro⟨⟨M,h1,h2⟩|⟨h1,h2,_⟩,h3⟩
      ·cases h1
      ·omega
    ·rw[if_neg hj2];exact⟨fun hh=>⟨hh,hj⟩,fun hh=>hh.1⟩
  ·unfold Pool.left;rw[hget,if_neg hj];rcases hcj with⟨M,h1,_⟩|⟨h1,h2,c,h3⟩
   ·rw[if_neg (fun e=>by have:=bC h1;omega),h1]
   ·subst h2;rw[if_neg (by omega),h1,h3]
    obtain⟨q,h4⟩:∃q,(a.split id ⟨2*N.pfx,N.au+1,0,0,X,.idle⟩ ⟨2*N.pfx+1,N.au+1,0,0,Y,.idle⟩).cop=some (c.1,q):=by unfold Pool.split;simp only;rw[h3];exact⟨_,rfl⟩
    have h5:(a.split id ⟨2*N.pfx,N.au+1,0,0,X,.idle⟩ ⟨2*N.pfx+1,N.au+1,0,0,Y,.idle⟩).l.length=a.l.length:=by unfold Pool.split;simp only;rw[kY]
    rw[h4];simp only;rw[h5]
  ·rw[hget]at hZ;by_cases hi:i=id
   ·rw[if_pos hi]at hZ;cases hZ;exact .inl rfl
   ·rw[if_neg hi]at hZ;by_cases hi2:i=a.Ns.length
    ·rw[if_pos hi2]at hZ;cases hZ;exact .inl rfl
    ·rw[if_neg hi2]at hZ;exact .inr ⟨hi,hZ⟩
  ·show((a.Ns.set id _++[_]).flatMap Nd.ents).Perm (a.Ns.flatMap Nd.ents);obtain⟨B,B',b1,b2⟩:=qC (N':=⟨2*N.pfx,N.au+1,0,0,X,.idle⟩) hN;rw[List.flatMap_append,b2,b1,←he];simp only[List.flatMap_cons,List.flatMap_nil,List.append_nil,List.append_assoc];exact(List.Perm.append_left _ (List.perm_append_comm)).append_left _
  ·have:(a.split id ⟨2*N.pfx,N.au+1,0,0,X,.idle⟩ ⟨2*N.pfx+1,N.au+1,0,0,Y,.idle⟩).cop.isSome=true:=by rw[hc];rfl
   rw[YK]at this;exact this
  ·exact(Option.some_get _).symm
end
section
variable {N : Nd} {a a1 : Pool} {i own : Nat} {H : Nat → Nat} {F G0 ids bQ : List Nat} {W0 w w0 : World} {E : Nat → Addr} {C : iq} {st : kM}
structure Cg (a:Pool)(ids:List Nat)(own:Nat):Prop where
 pre:Ra a ids own
 slo:∀N:Nd,a.Ns[own]?=some N→N.ph.busy=false→N.sl=0
 sl8:∀N:Nd,a.Ns[own]?=some N→N.sl≤8
theorem Pn (h:N.ph.busy=false):N.ph= .idle:=by
 cases hp:N.ph with
 |idle=>rfl
 |_=>rw[hp]at h;cases h
theorem Ew (hN:a.Ns[i]?=some N):a.can i↔N.ph.busy=true:=by
 unfold Pool.can;rw[hN];simp
theorem Ub (hN:a.Ns[i]?=some N):a.left i=N.left:=by unfold Pool.left;rw[hN]
theorem aa0 {l t:Int}{g lo gl:Nat}(h:iY l t g lo gl=3):lo<gl:=by
 unfold iY at h;split at h
 ·cases h
 ·split at h
  ·cases h
  ·split at h
   ·next h1=>exact h1.2
   ·split at h<;>cases h
theorem Po (h:Ra a ids own)(ho:∀N,a.Ns[own]?=some N→dO H N)(hb:yx a ids own a1 bQ):Cg a1 bQ own∧a1.d=a.d∧a1.Ns.length=a.Ns.length∧a1.cop=a.cop∧a1.ents=a.ents:=by
 cases hb with
 |@busy N hN hb=>exact⟨⟨h,fun N' hN' hb'=>(by rw[hN]at hN';cases hN';rw[hb]at hb';cases hb'),fun N' hN'=>(ho N' hN').sl⟩,rfl,rfl,rfl,rfl⟩
 |@none N hN hi hk=>
  have hid:=bC hN;have hget:=jO (N':={N with sl:=0}) hid;refine⟨⟨⟨h.dir.alike hN rfl rfl (fun hb hk=>h.dir.split own N hN hb hk),fun j=> ?_,h.nd,fun j hj=> ?_,fun i X hX hi'=> ?_⟩,fun X hX hb=> ?_,fun X hX=> ?_⟩,rfl,by simp,rfl, ?_⟩
  ·rw[←h.iR];unfold Pool.can;simp only;rw[hget];by_cases hj:j=own
   ·subst hj;rw[if_pos rfl,hN];simp
   ·rw[if_neg hj]
  ·have:=h.some_ j hj;unfold Pool.left at this⊢;simp only;rw[hget];by_cases hj:j=own
   ·subst hj;rw[if_pos rfl];rw[hN]at this;exact this
   ·rw[if_neg hj];exact this
  ·have ig:(a.Ns.set own _)[i]?=some X:=hX;rw[hget,if_neg hi']at ig;exact h.sl i X ig hi'
  ·have ig:(a.Ns.set own _)[own]?=some X:=hX;rw[hget,if_pos rfl]at ig;cases ig;rfl
  ·have ig:(a.Ns.set own _)[own]?=some X:=hX;rw[hget,if_pos rfl]at ig;cases ig;exact Nat.zero_le _
  ·obtain⟨B,B',b1,b2⟩:=qC (N':={N with sl:=0}) hN;show(a.Ns.set own _).flatMap Nd.ents=a.Ns.flatMap Nd.ents;rw[b1,b2];rfl
 |@start N kind hN hi hk h0=>
  have hid:=bC hN;have hO:=ho N hN;have hget:=jO (N':=N.start kind) hid
  have hnb:N.ph.busy=false:=by rw[hi];rfl
  have hnot:own∉ids:=fun hh=>by
   have:=(h.iR own).2 hh;rw[Ew hN,hnb]at this;cases this
  have hbs:(N.start kind).ph.busy=true:=rfl
  have hE:(N.start kind).ents=N.ents:=by unfold Nd.ents Nd.start;rw[hi];rfl
  refine⟨⟨⟨h.dir.alike hN rfl rfl (fun _ hk3=> ?_),fun j=> ?_, ?_,fun j hj=> ?_,fun i X hX hi'=> ?_⟩,fun X hX hb=> ?_,fun X hX=> ?_⟩,rfl,by simp,rfl, ?_⟩
  ·have ade:kind=3:=hk3;rw[ade]at hk;exact aa0 hk
  ·rw[List.mem_append,←h.iR];unfold Pool.can;simp only;rw[hget];by_cases hj:j=own
   ·subst hj;rw[if_pos rfl,hN];simp[hbs]
   ·rw[if_neg hj];simp[hj]
  ·rw[List.nodup_append];exact⟨h.nd,by simp,fun x hx y hy=>by simp at hy;subst hy;exact fun e=>hnot (e▸hx)⟩
  ·unfold Pool.left;simp only;rw[hget];by_cases hj2:j=own
   ·rw[if_pos hj2];show 1≤(N.start kind).left;have:=hO.pw.pos;show 1≤N.len+_;omega
   ·rw[if_neg hj2];rcases List.mem_append.1 hj with h1|h1
    ·exact h.some_ j h1
    ·simp at h1;exact absurd h1 hj2
  ·have ig:(a.Ns.set own _)[i]?=some X:=hX;rw[hget,if_neg hi']at ig;exact h.sl i X ig hi'
  ·have ig:(a.Ns.set own _)[own]?=some X:=hX;rw[hget,if_pos rfl]at ig;cases ig;rw[hbs]at hb;cases hb
  ·have ig:(a.Ns.set own _)[own]?=some X:=hX;rw[hget,if_pos rfl]at ig;cases ig;exact Nat.le_refl 8
  ·obtain⟨B,B',b1,b2⟩:=qC (N':=N.start kind) hN;show(a.Ns.set own _).flatMap Nd.ents=a.Ns.flatMap Nd.ents;rw[b1,b2,hE]
theorem ZK {p:Prop}(h:Cg a ids own)(h32:a.Ns.length≤32)(hd:Ce p a ids a1 bQ):Cg a1 bQ own∧a1.d=a.d∧a1.Ns=a.Ns∧(∀c,a1.cop=some c→a.cop=some c∨a.d<5):=by
 cases hd with
 |not=>exact⟨h,rfl,rfl,fun c hc=> .inl hc⟩
 |yes _ hc hd=>
  have h0:a.Ns[32]?=none:=List.getElem?_eq_none h32
  have hnot:32∉ids:=fun hh=>by
   rcases(h.pre.iR 32).2 hh with⟨N,h1,_⟩|⟨_,_,c,h2⟩
   ·rw[h0]at h1;cases h1
   ·rw[hc]at h2;cases h2
  refine⟨⟨⟨h.pre.dir.double hc,fun j=> ?_, ?_,fun j hj=> ?_,h.pre.sl⟩,h.slo,h.sl8⟩,rfl,rfl,fun c hcc=> .inr hd⟩
  ·rw[List.mem_append,←h.pre.iR];unfold Pool.can;simp only;rw[hc];constructor
   ·rintro(h1|⟨_,h2,_⟩)
    ·exact .inl (.inl h1)
    ·exact .inr (by simp[h2])
   ·rintro((h1|⟨_,_,c,h3⟩)|h1)
    ·exact .inl h1
    ·cases h3
    ·simp at h1;subst h1;exact .inr ⟨h0,rfl,_,rfl⟩
  ·rw[List.nodup_append];exact⟨h.pre.nd,by simp,fun x hx y hy=>by simp at hy;subst hy;exact fun e=>hnot (e▸hx)⟩
  ·by_cases hj2:j=32
   ·subst hj2;unfold Pool.left;simp only;rw[h0]
    show 1≤if 32=32 then a.l.length-0 else 0
    rw[if_pos rfl,h.pre.dir.len];have:=pos2 a.d;omega
   ·have hj':j∈ids:=by
     rcases List.mem_append.1 hj with h1|h1
     ·exact h1
     ·simp at h1;exact absurd h1 hj2
    have:=h.pre.some_ j hj';unfold Pool.left at this⊢;simp only
    cases hN:a.Ns[j]? with
    |some N=>rw[hN]at this;exact this
    |none=>rw[hN,hc]at this;simp at this
theorem ZL {K:Nat}(hK:1≤K){a3 a4:Pool}{e1 mP:List Nat}(h:Cg a ids own)(ho:ug Pool.left (Pool.step H) ids own (8*K) a a3)(hO:rC Pool.left (Pool.step H) K ids a3 e1 mP a4):
  jE a4 (gY Pool.left a4 mP) (e1++fO Pool.left a4 mP)∧jk a a4:=by
 obtain⟨o1,o2,o3,o4⟩:=aaZ ho;obtain⟨t1,t2,t3,t4,t5⟩:=aaY hO h.pre.nd;have yu:=qz hO;have hS:=o1.trans t1;have hnd:=h.pre.nd;rw[yu,List.nodup_append]at hnd;obtain⟨n1,n2,n3⟩:=hnd
 have hlive:∀j,j∈gY Pool.left a4 mP↔j∈mP∧a4.left j≠0:=fun j=>by unfold gY;simp
 have hdone:∀j,j∈fO Pool.left a4 mP↔j∈mP∧a4.left j=0:=fun j=>by unfold fO;simp
 refine⟨⟨t2 (o2 h.pre.dir),fun j=> ?_,n2.filter _, ?_,fun i hi hp=> ?_,fun j hj=> ?_,fun j hj=> ?_,fun i N hN hp=> ?_⟩,hS⟩
 ·rw[hS.iR,h.pre.iR,yu,List.mem_append,List.mem_append,hlive,hdone]
  by_cases h0:a4.left j=0<;>simp[h0]<;>by_cases h1:j∈e1<;>simp[h1]
 ·rw[List.nodup_append];exact⟨n1,n2.filter _,fun x hx y hy=>n3 x hx y ((hdone y).1 hy).1⟩
 ·rw[hlive]at hi;rcases List.mem_append.1 hp with h1|h1
  ·exact n3 i h1 i hi.1 rfl
  ·exact hi.2 ((hdone i).1 h1).2
 ·rcases List.mem_append.1 hj with h1|h1
  ·exact t4 j h1
  ·exact((hdone j).1 h1).2
 ·have:=((hlive j).1 hj).2;omega
 ·obtain⟨N3,m1,m2,m3⟩:=t1.kL i N hN;obtain⟨N0,k1,k2,k3⟩:=o1.kL i N3 m1;by_cases hi:i=own
  ·subst hi;rcases ho with⟨h1,rfl⟩|⟨h1,m,hs,hm,hor⟩
   ·have hnb:N0.ph.busy=false:=by
     cases hb:N0.ph.busy with
     |false=>rfl
     |true=>exact absurd ((h.pre.iR i).1 ((Ew k1).2 hb)) h1
    have:=h.slo N0 k1 hnb;omega
   ·obtain⟨_,_,_,_,s5⟩:=Ev hs;have h5:=s5 i N0 N3 k1 m1 rfl;have h8:=h.sl8 N0 k1;rcases hor with h6|h6
    ·omega
    ·exfalso;apply hp;have h7:=t5 i;rw[yu]at h1;rcases List.mem_append.1 h1 with h9|h9
     ·exact List.mem_append_left _ h9
     ·exact List.mem_append_right _ ((hdone i).2 ⟨h9,by omega⟩)
  ·have:=h.pre.sl i N0 k1 hi;omega
theorem aa1 {pend:List Nat}(h:jE a ids pend)(h5:∀c,a.cop=some c→a.d<5):∀i∈ids,i≠a.Ns.length:=fun i hi=>by
 rcases(h.iR i).2 (.inl hi)with⟨N,h1,_⟩|⟨_,rfl,c,h2⟩
 ·have:=bC h1;omega
 ·have h3:=h5 c h2;have h4:=h.dir.nodes;have h6:2^a.d≤2^4:=Nat.pow_le_pow_right (by decide) (by omega);omega
theorem aA.bounds (h:aA W0 E H C w0 G0 w F st):st.a.d≤5∧st.a.Ns.length≤32∧(∀c,st.a.cop=some c→st.a.d<5)∧(∀(i:Nat) (N:Nd),st.a.Ns[i]?=some N→dO H N):=by
 obtain⟨Fs,hF,hp⟩:=h.aC.pool;exact⟨hp.dir.le,hp.wD,fun c hc=>(hp.cop c.1 c.2 hc).fresh.le,fun i N hN=>(hp.kL i N hN).2⟩
theorem Xl (h:aA W0 E H C w0 G0 w F st)(id:Nat)(pend:List Nat)(hi:jE st.a st.ids (id::pend)):Calls Tryz.prog 139 #[aY C.mb,nI id] w fun e w'=>e= .returned undef∧sK W0 E H C w0 G0 st id w':=by
 obtain⟨b1,b2,b3,b4⟩:=h.bounds;have hl:=hi.lft id (by simp);rcases(hi.iR id).2 (.inr (by simp))with⟨N,hN,hb⟩|⟨hN,rfl,c,hc⟩
 ·rw[Ub hN]at hl;by_cases hm:N.many=2
  ·exact MK h hi.dir (aa1 hi b3) id N hN hb hl hm
  ·exact MJ h id N hN hb hl (by unfold Nd.many at hm⊢;split at hm<;>simp_all)
 ·refine Kt h c hc ?_;unfold Pool.left at hl;rw[hN,hc]at hl;have hl2:(if 32=32 then st.a.l.length-c.1 else 0)=0:=hl;rw[if_pos rfl]at hl2;have:=(hi.dir.cop c hc).2.1;omega
end
end Go.Proofs.YtgkeameopnpinaaGreatDoor
