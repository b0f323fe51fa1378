/- What is done behind a write to a node: jobs begin, are worked at, are ended; what that leaves of a core's nodes. No statement of the claim. -/
import Derived.Test.YtnfjjbpmhcbelaaGreatDoorCoCK
import Derived.Test.YtnfjjbpmhcbelaaGreatDoorSqM
import Derived.Test.YtnfjjbpmhcbelaaGreatDoorGaugeA
namespace Go.Proofs.YtnfjjbpmhcbelaaGreatDoor
open Go.RowKit dI
section
variable {Ns : List Nd} {id : Nat} {N N' : Nd} {H : Nat → Nat} {ids : List Nat}
def Pool.ents (a:Pool):List av:=a.Ns.flatMap Nd.ents
def Pool.groups (a:Pool):Nat:=(a.Ns.map Nd.groups).sum
theorem sD (hN:Ns[id]?=some N):∃B B',Ns.flatMap Nd.ents=B++(N.ents++B')∧(Ns.set id N').flatMap Nd.ents=B++(N'.ents++B'):=by
 obtain⟨h1,h2⟩:=Ap hN;refine⟨(Ns.take id).flatMap Nd.ents,(Ns.drop (id+1)).flatMap Nd.ents, ?_, ?_⟩
 ·have h3:Ns.flatMap Nd.ents=(Ns.take id++N::Ns.drop (id+1)).flatMap Nd.ents:=by rw[←h1]
  rw[h3];simp
 ·rw[h2 N'];simp
theorem IY (hN:Ns[id]?=some N)(hp:N'.ents.Perm N.ents):((Ns.set id N').flatMap Nd.ents).Perm (Ns.flatMap Nd.ents):=by
 obtain⟨B,B',h1,h2⟩:=sD (N':=N') hN;rw[h1,h2];exact(hp.append_right B').append_left B
theorem TL (hN:Ns[id]?=some N):((Ns.set id N').map Nd.groups).sum+N.groups=(Ns.map Nd.groups).sum+N'.groups:=by
 obtain⟨h1,h2⟩:=Ap hN
 have h3:(Ns.map Nd.groups).sum=((Ns.take id++N::Ns.drop (id+1)).map Nd.groups).sum:=by rw[←h1]
 rw[h3,h2 N'];simp only[List.map_append,List.map_cons,List.sum_append,List.sum_cons];omega
theorem kg (hid:id<Ns.length)(i:Nat):(Ns.set id N')[i]?=if i=id then some N' else Ns[i]?:=by
 rw[List.getElem?_set];by_cases h:id=i
 ·rw[if_pos h,if_pos hid,if_pos h.symm]
 ·rw[if_neg h,if_neg (fun e=>h e.symm)]
structure jH (a a':Pool):Prop where
 len:a'.Ns.length=a.Ns.length
 cop:a'.cop.isSome=a.cop.isSome
 jg:∀j,a'.can j↔a.can j
 ents:a'.ents.Perm a.ents
 groups:a'.groups=a.groups
 d:a'.d=a.d
 l:a'.l=a.l
 lF:∀(i:Nat) (N':Nd),a'.Ns[i]?=some N'→∃N,a.Ns[i]?=some N∧Like N N'∧N'.sl≤N.sl
theorem jH.refl (a:Pool):jH a a:=⟨rfl,rfl,fun _=>Iff.rfl,.refl _,rfl,rfl,rfl,fun _ N h=>⟨N,h,Like.refl N,Nat.le_refl _⟩⟩
theorem jH.trans {a b c:Pool}(h:jH a b)(k:jH b c):jH a c:=
 ⟨k.len.trans h.len,k.cop.trans h.cop,fun j=>(k.jg j).trans (h.jg j),k.ents.trans h.ents,k.groups.trans h.groups,k.d.trans h.d,k.l.trans h.l,fun i N' hN=>by
  obtain⟨N1,h1,h2,h3⟩:=k.lF i N' hN;obtain⟨N,h4,h5,h6⟩:=h.lF i N1 h1
  exact⟨N,h4,h5.trans h2,Nat.le_trans h3 h6⟩⟩
theorem Rp {H:Nat→Nat}(hb:N.ph.busy=true):N.step.sl=N.sl-1:=by
 unfold Nd.step
 cases hp:N.ph with
 |idle=>rw[hp]at hb;cases hb
 |_=>rfl
theorem O0 {a a':Pool}(hs:a.step H id a'):jH a a':=by
 rcases hs with⟨N,hN,hb,hl,ho,rfl⟩|⟨hN,rfl,c,hc,hl,rfl⟩
 ·have hid:=bG hN;have hL:=rW N;refine⟨by simp,rfl,fun j=> ?_,IY hN (KV ho hl), ?_,rfl,rfl,fun i X hX=> ?_⟩
  ·unfold Pool.can;simp only;rw[kg hid];by_cases hj:j=id
   ·subst hj;rw[if_pos rfl,hN];simp[hL.busy]
   ·rw[if_neg hj]
  ·have:=TL (N':=N.step) hN;rw[hL.groups]at this;show((a.Ns.set id N.step).map Nd.groups).sum=(a.Ns.map Nd.groups).sum;omega
  ·have iE:(a.Ns.set id N.step)[i]?=some X:=hX;rw[kg hid]at iE;by_cases hi:i=id
   ·subst hi;rw[if_pos rfl]at iE;cases iE;exact⟨N,hN,hL,by rw[Rp (H:=H) hb];omega⟩
   ·rw[if_neg hi]at iE;exact⟨X,iE,Like.refl X,Nat.le_refl _⟩
 ·refine⟨rfl,by show(some _).isSome=a.cop.isSome;rw[hc];rfl,fun j=> ?_,.refl _,rfl,rfl,rfl,fun i X hX=>⟨X,hX,Like.refl X,Nat.le_refl _⟩⟩;unfold Pool.can;simp only;constructor
  ·rintro(h|⟨h1,h2,c',h3⟩)
   ·exact .inl h
   ·exact .inr ⟨h1,h2,c,hc⟩
  ·rintro(h|⟨h1,h2,c',h3⟩)
   ·exact .inl h
   ·exact .inr ⟨h1,h2,_,rfl⟩
theorem zN {a a':Pool}(hs:a.step H id a'){j:Nat}(hj:j≠id):a'.left j=a.left j:=(Ev (W0:=default) (E:=fun _=>⟨0,0,none⟩) (P:=⟨0,0,[],[],0,0⟩) ⟨fun _=>0,0,0,0,0,0⟩ (Nat.zero_le _)).Lc hs hj
structure jV (a:Pool)(ids pend:List Nat):Prop where
 dir:eF a
 jg:∀id,a.can id↔id∈ids∨id∈pend
 nd:ids.Nodup
 ndp:pend.Nodup
 dis:∀i∈ids,i∉pend
 lft:∀id∈pend,a.left id=0
 some_:∀id∈ids,1≤a.left id
 sl:∀(i:Nat) (N:Nd),a.Ns[i]?=some N→i∉pend→N.sl=0
theorem jH.nd {a a':Pool}(h:jH a a'){i:Nat}(hN:a.Ns[i]?=some N):∃N',a'.Ns[i]?=some N'∧Like N N'∧N'.sl≤N.sl:=by
 obtain⟨N',hN'⟩:∃N',a'.Ns[i]?=some N':=⟨_,List.getElem?_eq_getElem (by rw[h.len];exact bG hN)⟩;obtain⟨N2,h1,h2,h3⟩:=h.lF i N' hN';rw[hN]at h1;cases h1;exact⟨N',hN',h2,h3⟩
theorem GA:∀{n:Nat} {a a':Pool},JK (Pool.step H) id n a a'→jH a a'∧(eF a→eF a')∧(∀j,j≠id→a'.left j=a.left j)∧a'.left id+n=a.left id∧(∀i N N',a.Ns[i]?=some N→a'.Ns[i]?=some N'→i=id→N'.sl=N.sl-n)
 |0,a,_,h=>by
  cases h;exact⟨jH.refl a,fun h=>h,fun _ _=>rfl,rfl,fun i N N' h1 h2 _=>by rw[h1]at h2;cases h2;rfl⟩
 |n+1,a,a',⟨b,h1,h2⟩=>by
  obtain⟨i1,i2,i3,i4,i5⟩:=GA h1;have hl:a'.left id+1=b.left id:=(Ev (W0:=default) (E:=fun _=>⟨0,0,none⟩) (P:=⟨0,0,[],[],0,0⟩) ⟨fun _=>0,0,0,0,0,0⟩ (Nat.zero_le _)).DK h2;refine⟨i1.trans (O0 h2),fun h=>(i2 h).step h2,fun j hj=>(zN h2 hj).trans (i3 j hj),by omega,fun i N N' hN hN' hi=> ?_⟩;subst hi;obtain⟨M,m1,m2,m3⟩:=(O0 h2).lF i N' hN';have h5:=i5 i N M hN m1 rfl;rcases h2 with⟨K,hK,hb,_,_,rfl⟩|⟨hK,_⟩
  ·rw[hK]at m1;cases m1;have hX:(b.Ns.set i _)[i]?=some N':=hN';rw[kg (bG hK),if_pos rfl]at hX;cases hX;rw[Rp (H:=H) hb,h5];omega
  ·rw[hK]at m1;cases m1
theorem acF {c:Nat}{e aK:List Nat}{a a':Pool}(h:tF Pool.left (Pool.step H) c ids a e aK a')(hn:ids.Nodup):jH a a'∧(eF a→eF a')∧(∀j,j∉ids→a'.left j=a.left j)∧(∀j∈e,a'.left j=0)∧(∀j,a'.left j≤a.left j):=by
 induction h with
 |nil c a=>exact⟨jH.refl a,fun h=>h,fun _ _=>rfl,fun _ h=>(by cases h),fun _=>Nat.le_refl _⟩
 |broke ids a=>exact⟨jH.refl a,fun h=>h,fun _ _=>rfl,fun _ h=>(by cases h),fun _=>Nat.le_refl _⟩
 |ended h0 r ih=>
  rw[List.nodup_cons]at hn;obtain⟨i1,i2,i3,i4,i5⟩:=ih hn.2;refine⟨i1,i2,fun j hj=>i3 j (fun hh=>hj (by simp[hh])),fun j hj=> ?_,i5⟩;rcases List.mem_cons.1 hj with rfl|h1
  ·rw[i3 _ hn.1];exact h0
  ·exact i4 j h1
 |@step c i0 agc e0 bM a0 b0 a1 h1 hs r ih=>
  obtain⟨i1,i2,i3,i4,i5⟩:=ih hn;have hl:=(Ev (W0:=default) (E:=fun _=>⟨0,0,none⟩) (P:=⟨0,0,[],[],0,0⟩) ⟨fun _=>0,0,0,0,0,0⟩ (Nat.zero_le _)).DK hs;refine⟨(O0 hs).trans i1,fun h=>i2 (h.step hs),fun j hj=>(i3 j hj).trans (zN hs (fun e=>hj (by simp[e]))),i4,fun j=> ?_⟩;refine Nat.le_trans (i5 j) ?_;by_cases hj:j=i0
  ·subst hj;omega
  ·rw[zN hs hj];exact Nat.le_refl _
theorem acG {own n:Nat}{a a':Pool}(h:vS Pool.left (Pool.step H) ids own n a a'):jH a a'∧(eF a→eF a')∧(∀j,j≠own→a'.left j=a.left j)∧a'.left own≤a.left own:=by
 rcases h with⟨_,rfl⟩|⟨_,m,h1,_⟩
 ·exact⟨jH.refl _,fun h=>h,fun _ _=>rfl,Nat.le_refl _⟩
 ·obtain⟨i1,i2,i3,i4,_⟩:=GA h1;exact⟨i1,i2,i3,by omega⟩
inductive zO (a:Pool)(ids:List Nat)(id:Nat):Pool→List Nat→Prop
 |busy {N:Nd} (hN:a.Ns[id]?=some N) (hb:N.ph.busy=true):zO a ids id a ids
 |none {N:Nd} (hN:a.Ns[id]?=some N) (hi:N.ph= .idle) (hk:jo N.T.live N.T.bW N.len N.au a.d=0):zO a ids id {a with Ns:=a.Ns.set id {N with sl:=0}} ids
 |start {N:Nd} {kind:Nat} (hN:a.Ns[id]?=some N) (hi:N.ph= .idle) (hk:jo N.T.live N.T.bW N.len N.au a.d=kind) (h0:kind≠0):zO a ids id {a with Ns:=a.Ns.set id (N.start kind)} (ids++[id])
def O1 (a:Pool)(id:Nat):Prop:=∃N,a.Ns[id]?=some N∧eU N.T.live N.T.bW N.len N.au a.d=true
inductive D6 (p:Prop)(a:Pool)(ids:List Nat):Pool→List Nat→Prop
 |not:D6 p a ids a ids
 |yes (hp:p) (hc:a.cop=none) (hd:a.d<5):D6 p a ids {a with cop:=some (0,List.replicate (2^(a.d+1)) 0)} (ids++[32])
inductive yF (H:Nat→Nat):Pool→List Nat→Pool→Prop
 |nil (a:Pool):yF H a [] a
 |cons {a b c:Pool} {id:Nat} {l:List Nat} (h:BJ H a id b) (r:yF H b l c):yF H a (id::l) c
structure aaE (H:Nat→Nat)(K:Nat)(a:Pool)(ids:List Nat)(id:Nat)(a':Pool)(aK:List Nat):Prop where
 ex:∃a1 bM a2 aO a3 e1 nM a4,zO a ids id a1 bM∧D6 (O1 a id) a1 bM a2 aO∧vS Pool.left (Pool.step H) aO id (8*K) a2 a3∧tF Pool.left (Pool.step H) K aO a3 e1 nM a4∧yF H a4 (e1++gq Pool.left a4 nM) a'∧aK=iC Pool.left a4 nM
structure TM (a:Pool)(ids:List Nat)(own:Nat):Prop where
 dir:eF a
 jg:∀id,a.can id↔id∈ids
 nd:ids.Nodup
 some_:∀id∈ids,1≤a.left id
 sl:∀(i:Nat) (N:Nd),a.Ns[i]?=some N→i≠own→N.sl=0
theorem ZC {a a':Pool}{pend:List Nat}(h:jV a ids (id::pend))(hs:BJ H a id a')(h5:a.d≤5)(h32:a.Ns.length≤32)(hd5:∀c,a.cop=some c→a.d<5):jV a' ids pend∧a'.d≤5∧a'.Ns.length≤32∧a'.ents.Perm a.ents∧(∀c,a'.cop=some c→a'.d<5):=by
 have hp2:∀d,d≤5→2^d≤32:=fun d hd=>Nat.pow_le_pow_right (n:=2) (by decide) hd;have hnp:id∉pend:=(List.nodup_cons.1 h.ndp).1
 have hcan:∀{b:Pool},(∀j,b.can j↔a.can j∧j≠id)→∀j,b.can j↔j∈ids∨j∈pend:=fun hb j=>by
  rw[hb,h.jg];constructor
  ·rintro⟨h1|h1,h2⟩
   ·exact .inl h1
   ·rcases List.mem_cons.1 h1 with h3|h3
    ·exact absurd h3 h2
    ·exact .inr h3
  ·rintro(h1|h1)
   ·exact⟨.inl h1,fun e=>h.dis j h1 (by simp[e])⟩
   ·exact⟨.inr (by simp[h1]),fun e=>hnp (e▸h1)⟩
 have mk:∀{b:Pool},eF b→(∀j,b.can j↔a.can j∧j≠id)→(∀j,j≠id→a.can j→b.left j=a.left j)→(∀(i:Nat) (N:Nd),b.Ns[i]?=some N→N.sl=0∨(i≠id∧a.Ns[i]?=some N))→jV b ids pend:=fun hd hb hl hsl=>by
  refine⟨hd,hcan hb,h.nd,(List.nodup_cons.1 h.ndp).2,fun i hi hip=>h.dis i hi (by simp[hip]),fun j hj=> ?_,fun j hj=> ?_,fun i N hN hip=> ?_⟩
  ·rw[hl j (fun e=>hnp (e▸hj)) ((h.jg j).2 (.inr (by simp[hj])))];exact h.lft j (by simp[hj])
  ·rw[hl j (fun e=>h.dis j hj (by simp[e])) ((h.jg j).2 (.inl hj))];exact h.some_ j hj
  ·rcases hsl i N hN with h1|⟨h1,h2⟩
   ·exact h1
   ·exact h.sl i N h2 (by simp[h1,hip])
 cases hs with
 |take hc hl=>
  have hlt:=hd5 _ hc;have hD:=h.dir.take hc hl;refine⟨mk hD (fun j=> ?_) (fun j hj hcj=> ?_) (fun i N hN=> ?_),by show a.d+1≤5;omega,h32,.refl _,fun c hc=>by cases hc⟩
  ·unfold Pool.can;simp only;constructor
   ·rintro(h1|⟨_,_,c,h1⟩)
    ·refine⟨.inl h1,fun e=> ?_⟩;obtain⟨N,h2,_⟩:=h1;have:=bG h2;omega
    ·cases h1
   ·rintro⟨h1|⟨_,h2,_⟩,h3⟩
    ·exact .inl h1
    ·exact absurd h2 h3
  ·rcases hcj with⟨N,h1,_⟩|⟨_,h2,_⟩
   ·unfold Pool.left;simp only;rw[h1]
   ·exact absurd h2 hj
  ·by_cases hi:i=32
   ·have:=bG hN;have h7:i<a.Ns.length:=this;omega
   ·exact .inr ⟨hi,hN⟩
 |@one _ N X hN hb hl ho hm hk he hx=>
  have hid:=bG hN;have hget:=kg (N':=⟨N.pfx,N.au,0,0,X,.idle⟩) hid;refine⟨mk (h.dir.alike hN rfl rfl (fun hbb=>by cases hbb)) (fun j=> ?_) (fun j hj hcj=> ?_) (fun i Z hX=> ?_),h5,by simpa using h32,IY hN (by rw[he]),hd5⟩
  ·unfold Pool.can;simp only;rw[hget];by_cases hj:j=id
   ·subst hj;simp[Phase.busy]
   ·rw[if_neg hj];simp[hj]
  ·unfold Pool.left;simp only;rw[hget,if_neg hj]
  ·have iE:(a.Ns.set id _)[i]?=some Z:=hX;rw[hget]at iE;by_cases hi:i=id
   ·rw[if_pos hi]at iE;cases iE;exact .inl rfl
   ·rw[if_neg hi]at iE;exact .inr ⟨hi,iE⟩
 |@two _ N X Y hN hb hl ho hm hd hk hk2 he hx hy=>
  have hid:=bG hN;have hD:=h.dir.Wt (N0:=⟨2*N.pfx,N.au+1,0,0,X,.idle⟩) (N1:=⟨2*N.pfx+1,N.au+1,0,0,Y,.idle⟩) hN hd ⟨rfl,rfl,rfl⟩ ⟨rfl,rfl,rfl⟩
  have hlen:(a.split id ⟨2*N.pfx,N.au+1,0,0,X,.idle⟩ ⟨2*N.pfx+1,N.au+1,0,0,Y,.idle⟩).Ns.length=a.Ns.length+1:=by unfold Pool.split;simp
  have TK:a.Ns.length+1≤32:=by
   have:=hD.nodes;have h8:(a.split id ⟨2*N.pfx,N.au+1,0,0,X,.idle⟩ ⟨2*N.pfx+1,N.au+1,0,0,Y,.idle⟩).d=a.d:=rfl;rw[hlen,h8]at this;exact Nat.le_trans this (hp2 _ h5)
  have hget:∀i,(a.split id ⟨2*N.pfx,N.au+1,0,0,X,.idle⟩ ⟨2*N.pfx+1,N.au+1,0,0,Y,.idle⟩).Ns[i]?=if i=id then some ⟨2*N.pfx,N.au+1,0,0,X,.idle⟩else if i=a.Ns.length then some ⟨2*N.pfx+1,N.au+1,0,0,Y,.idle⟩else a.Ns[i]?:=fun i=>by
   show(a.Ns.set id _++[_])[i]?=_;by_cases hi:i<a.Ns.length
   ·rw[List.getElem?_append_left (by simpa using hi),kg hid];by_cases hii:i=id
    ·rw[if_pos hii,if_pos hii]
    ·rw[if_neg hii,if_neg hii,if_neg (by omega)]
   ·rw[List.getElem?_append_right (by simpa using hi),List.length_set,if_neg (by omega)];by_cases hii:i=a.Ns.length
    ·rw[if_pos hii,hii,Nat.sub_self];rfl
    ·rw[if_neg hii,List.getElem?_eq_none (by simp;omega),List.getElem?_eq_none (by omega)]
  have aaF:(a.split id ⟨2*N.pfx,N.au+1,0,0,X,.idle⟩ ⟨2*N.pfx+1,N.au+1,0,0,Y,.idle⟩).cop.isSome=a.cop.isSome:=by unfold Pool.split;simp
  have hsome:∀o:Option (Nat×List Nat),(∃c,o=some c)↔o.isSome=true:=fun o=>by cases o<;>simp
  refine⟨mk hD (fun j=> ?_) (fun j hj hcj=> ?_) (fun i Z hZ=> ?_),h5,by rw[hlen];exact TK, ?_,fun c hc=>hd5 (a.cop.get ?_) ?_⟩
  ·unfold Pool.can;rw[hget,hsome,hsome,aaF];by_cases hj:j=id
   ·subst hj;simp[Phase.busy]
   ·rw[if_neg hj];by_cases hj2:j=a.Ns.length
    ·rw[if_pos hj2,List.getElem?_eq_none (by omega)];constructor
     ·rintro(⟨M,h1,h2⟩|⟨h1,_⟩)
      ·cases h1;cases h2
      ·cases h1
     ·rintro⟨⟨M,h1,h2⟩|⟨h1,h2,_⟩,h3⟩
      ·cases h1
      ·omega
    ·rw[if_neg hj2];exact⟨fun hh=>⟨hh,hj⟩,fun hh=>hh.1⟩
  ·unfold Pool.left;rw[hget,if_neg hj];rcases hcj with⟨M,h1,_⟩|⟨h1,h2,c,h3⟩
   ·rw[if_neg (fun e=>by have:=bG h1;omega),h1]
   ·subst h2;rw[if_neg (by omega),h1,h3]
    obtain⟨q,h4⟩:∃q,(a.split id ⟨2*N.pfx,N.au+1,0,0,X,.idle⟩ ⟨2*N.pfx+1,N.au+1,0,0,Y,.idle⟩).cop=some (c.1,q):=by unfold Pool.split;simp only;rw[h3];exact⟨_,rfl⟩
    have h5:(a.split id ⟨2*N.pfx,N.au+1,0,0,X,.idle⟩ ⟨2*N.pfx+1,N.au+1,0,0,Y,.idle⟩).l.length=a.l.length:=by unfold Pool.split;simp only;rw[lV]
    rw[h4];simp only;rw[h5]
  ·rw[hget]at hZ;by_cases hi:i=id
   ·rw[if_pos hi]at hZ;cases hZ;exact .inl rfl
   ·rw[if_neg hi]at hZ;by_cases hi2:i=a.Ns.length
    ·rw[if_pos hi2]at hZ;cases hZ;exact .inl rfl
    ·rw[if_neg hi2]at hZ;exact .inr ⟨hi,hZ⟩
  ·show((a.Ns.set id _++[_]).flatMap Nd.ents).Perm (a.Ns.flatMap Nd.ents);obtain⟨B,B',b1,b2⟩:=sD (N':=⟨2*N.pfx,N.au+1,0,0,X,.idle⟩) hN;rw[List.flatMap_append,b2,b1,←he];simp only[List.flatMap_cons,List.flatMap_nil,List.append_nil,List.append_assoc];exact(List.Perm.append_left _ (List.perm_append_comm)).append_left _
  ·have:(a.split id ⟨2*N.pfx,N.au+1,0,0,X,.idle⟩ ⟨2*N.pfx+1,N.au+1,0,0,Y,.idle⟩).cop.isSome=true:=by rw[hc];rfl
   rw[aaF]at this;exact this
  ·exact(Option.some_get _).symm
end
section
variable {N : Nd} {a a1 : Pool} {i own : Nat} {H : Nat → Nat} {F G0 ids bM : List Nat} {W0 w w0 : World} {E : Nat → Addr} {C : iF} {st : lG}
structure D7 (a:Pool)(ids:List Nat)(own:Nat):Prop where
 pre:TM a ids own
 slo:∀N:Nd,a.Ns[own]?=some N→N.ph.busy=false→N.sl=0
 sl8:∀N:Nd,a.Ns[own]?=some N→N.sl≤8
theorem Rq (h:N.ph.busy=false):N.ph= .idle:=by
 cases hp:N.ph with
 |idle=>rfl
 |_=>rw[hp]at h;cases h
theorem GD (hN:a.Ns[i]?=some N):a.can i↔N.ph.busy=true:=by
 unfold Pool.can;rw[hN];simp
theorem Wz (hN:a.Ns[i]?=some N):a.left i=N.left:=by unfold Pool.left;rw[hN]
theorem acH {l t:Int}{g lo gl:Nat}(h:jo l t g lo gl=3):lo<gl:=by
 unfold jo at h;split at h
 ·cases h
 ·split at h
  ·cases h
  ·split at h
   ·next h1=>exact h1.2
   ·split at h<;>cases h
theorem Rs (h:TM a ids own)(ho:∀N,a.Ns[own]?=some N→dU H N)(hb:zO a ids own a1 bM):D7 a1 bM own∧a1.d=a.d∧a1.Ns.length=a.Ns.length∧a1.cop=a.cop∧a1.ents=a.ents:=by
 cases hb with
 |@busy N hN hb=>exact⟨⟨h,fun N' hN' hb'=>(by rw[hN]at hN';cases hN';rw[hb]at hb';cases hb'),fun N' hN'=>(ho N' hN').sl⟩,rfl,rfl,rfl,rfl⟩
 |@none N hN hi hk=>
  have hid:=bG hN;have hget:=kg (N':={N with sl:=0}) hid;refine⟨⟨⟨h.dir.alike hN rfl rfl (fun hb hk=>h.dir.split own N hN hb hk),fun j=> ?_,h.nd,fun j hj=> ?_,fun i X hX hi'=> ?_⟩,fun X hX hb=> ?_,fun X hX=> ?_⟩,rfl,by simp,rfl, ?_⟩
  ·rw[←h.jg];unfold Pool.can;simp only;rw[hget];by_cases hj:j=own
   ·subst hj;rw[if_pos rfl,hN];simp
   ·rw[if_neg hj]
  ·have:=h.some_ j hj;unfold Pool.left at this⊢;simp only;rw[hget];by_cases hj:j=own
   ·subst hj;rw[if_pos rfl];rw[hN]at this;exact this
   ·rw[if_neg hj];exact this
  ·have iE:(a.Ns.set own _)[i]?=some X:=hX;rw[hget,if_neg hi']at iE;exact h.sl i X iE hi'
  ·have iE:(a.Ns.set own _)[own]?=some X:=hX;rw[hget,if_pos rfl]at iE;cases iE;rfl
  ·have iE:(a.Ns.set own _)[own]?=some X:=hX;rw[hget,if_pos rfl]at iE;cases iE;exact Nat.zero_le _
  ·obtain⟨B,B',b1,b2⟩:=sD (N':={N with sl:=0}) hN;show(a.Ns.set own _).flatMap Nd.ents=a.Ns.flatMap Nd.ents;rw[b1,b2];rfl
 |@start N kind hN hi hk h0=>
  have hid:=bG hN;have hO:=ho N hN;have hget:=kg (N':=N.start kind) hid
  have hnb:N.ph.busy=false:=by rw[hi];rfl
  have hnot:own∉ids:=fun hh=>by
   have:=(h.jg own).2 hh;rw[GD hN,hnb]at this;cases this
  have hbs:(N.start kind).ph.busy=true:=rfl
  have hE:(N.start kind).ents=N.ents:=by unfold Nd.ents Nd.start;rw[hi];rfl
  refine⟨⟨⟨h.dir.alike hN rfl rfl (fun _ hk3=> ?_),fun j=> ?_, ?_,fun j hj=> ?_,fun i X hX hi'=> ?_⟩,fun X hX hb=> ?_,fun X hX=> ?_⟩,rfl,by simp,rfl, ?_⟩
  ·have aes:kind=3:=hk3;rw[aes]at hk;exact acH hk
  ·rw[List.mem_append,←h.jg];unfold Pool.can;simp only;rw[hget];by_cases hj:j=own
   ·subst hj;rw[if_pos rfl,hN];simp[hbs]
   ·rw[if_neg hj];simp[hj]
  ·rw[List.nodup_append];exact⟨h.nd,by simp,fun x hx y hy=>by simp at hy;subst hy;exact fun e=>hnot (e▸hx)⟩
  ·unfold Pool.left;simp only;rw[hget];by_cases hj2:j=own
   ·rw[if_pos hj2];show 1≤(N.start kind).left;have:=hO.pw.pos;show 1≤N.len+_;omega
   ·rw[if_neg hj2];rcases List.mem_append.1 hj with h1|h1
    ·exact h.some_ j h1
    ·simp at h1;exact absurd h1 hj2
  ·have iE:(a.Ns.set own _)[i]?=some X:=hX;rw[hget,if_neg hi']at iE;exact h.sl i X iE hi'
  ·have iE:(a.Ns.set own _)[own]?=some X:=hX;rw[hget,if_pos rfl]at iE;cases iE;rw[hbs]at hb;cases hb
  ·have iE:(a.Ns.set own _)[own]?=some X:=hX;rw[hget,if_pos rfl]at iE;cases iE;exact Nat.le_refl 8
  ·obtain⟨B,B',b1,b2⟩:=sD (N':=N.start kind) hN;show(a.Ns.set own _).flatMap Nd.ents=a.Ns.flatMap Nd.ents;rw[b1,b2,hE]
theorem abw {p:Prop}(h:D7 a ids own)(h32:a.Ns.length≤32)(hd:D6 p a ids a1 bM):D7 a1 bM own∧a1.d=a.d∧a1.Ns=a.Ns∧(∀c,a1.cop=some c→a.cop=some c∨a.d<5):=by
 cases hd with
 |not=>exact⟨h,rfl,rfl,fun c hc=> .inl hc⟩
 |yes _ hc hd=>
  have h0:a.Ns[32]?=none:=List.getElem?_eq_none h32
  have hnot:32∉ids:=fun hh=>by
   rcases(h.pre.jg 32).2 hh with⟨N,h1,_⟩|⟨_,_,c,h2⟩
   ·rw[h0]at h1;cases h1
   ·rw[hc]at h2;cases h2
  refine⟨⟨⟨h.pre.dir.double hc,fun j=> ?_, ?_,fun j hj=> ?_,h.pre.sl⟩,h.slo,h.sl8⟩,rfl,rfl,fun c hcc=> .inr hd⟩
  ·rw[List.mem_append,←h.pre.jg];unfold Pool.can;simp only;rw[hc];constructor
   ·rintro(h1|⟨_,h2,_⟩)
    ·exact .inl (.inl h1)
    ·exact .inr (by simp[h2])
   ·rintro((h1|⟨_,_,c,h3⟩)|h1)
    ·exact .inl h1
    ·cases h3
    ·simp at h1;subst h1;exact .inr ⟨h0,rfl,_,rfl⟩
  ·rw[List.nodup_append];exact⟨h.pre.nd,by simp,fun x hx y hy=>by simp at hy;subst hy;exact fun e=>hnot (e▸hx)⟩
  ·by_cases hj2:j=32
   ·subst hj2;unfold Pool.left;simp only;rw[h0]
    show 1≤if 32=32 then a.l.length-0 else 0
    rw[if_pos rfl,h.pre.dir.len];have:=pos2 a.d;omega
   ·have hj':j∈ids:=by
     rcases List.mem_append.1 hj with h1|h1
     ·exact h1
     ·simp at h1;exact absurd h1 hj2
    have:=h.pre.some_ j hj';unfold Pool.left at this⊢;simp only
    cases hN:a.Ns[j]? with
    |some N=>rw[hN]at this;exact this
    |none=>rw[hN,hc]at this;simp at this
theorem abx {K:Nat}(hK:1≤K){a3 a4:Pool}{e1 nM:List Nat}(h:D7 a ids own)(ho:vS Pool.left (Pool.step H) ids own (8*K) a a3)(hO:tF Pool.left (Pool.step H) K ids a3 e1 nM a4):
  jV a4 (iC Pool.left a4 nM) (e1++gq Pool.left a4 nM)∧jH a a4:=by
 obtain⟨o1,o2,o3,o4⟩:=acG ho;obtain⟨t1,t2,t3,t4,t5⟩:=acF hO h.pre.nd;have zM:=sj hO;have hS:=o1.trans t1;have hnd:=h.pre.nd;rw[zM,List.nodup_append]at hnd;obtain⟨n1,n2,n3⟩:=hnd
 have hlive:∀j,j∈iC Pool.left a4 nM↔j∈nM∧a4.left j≠0:=fun j=>by unfold iC;simp
 have hdone:∀j,j∈gq Pool.left a4 nM↔j∈nM∧a4.left j=0:=fun j=>by unfold gq;simp
 refine⟨⟨t2 (o2 h.pre.dir),fun j=> ?_,n2.filter _, ?_,fun i hi hp=> ?_,fun j hj=> ?_,fun j hj=> ?_,fun i N hN hp=> ?_⟩,hS⟩
 ·rw[hS.jg,h.pre.jg,zM,List.mem_append,List.mem_append,hlive,hdone]
  by_cases h0:a4.left j=0<;>simp[h0]<;>by_cases h1:j∈e1<;>simp[h1]
 ·rw[List.nodup_append];exact⟨n1,n2.filter _,fun x hx y hy=>n3 x hx y ((hdone y).1 hy).1⟩
 ·rw[hlive]at hi;rcases List.mem_append.1 hp with h1|h1
  ·exact n3 i h1 i hi.1 rfl
  ·exact hi.2 ((hdone i).1 h1).2
 ·rcases List.mem_append.1 hj with h1|h1
  ·exact t4 j h1
  ·exact((hdone j).1 h1).2
 ·have:=((hlive j).1 hj).2;omega
 ·obtain⟨N3,m1,m2,m3⟩:=t1.lF i N hN;obtain⟨N0,k1,k2,k3⟩:=o1.lF i N3 m1;by_cases hi:i=own
  ·subst hi;rcases ho with⟨h1,rfl⟩|⟨h1,m,hs,hm,hor⟩
   ·have hnb:N0.ph.busy=false:=by
     cases hb:N0.ph.busy with
     |false=>rfl
     |true=>exact absurd ((h.pre.jg i).1 ((GD k1).2 hb)) h1
    have:=h.slo N0 k1 hnb;omega
   ·obtain⟨_,_,_,_,s5⟩:=GA hs;have h5:=s5 i N0 N3 k1 m1 rfl;have h8:=h.sl8 N0 k1;rcases hor with h6|h6
    ·omega
    ·exfalso;apply hp;have h7:=t5 i;rw[zM]at h1;rcases List.mem_append.1 h1 with h9|h9
     ·exact List.mem_append_left _ h9
     ·exact List.mem_append_right _ ((hdone i).2 ⟨h9,by omega⟩)
  ·have:=h.pre.sl i N0 k1 hi;omega
theorem acI {pend:List Nat}(h:jV a ids pend)(h5:∀c,a.cop=some c→a.d<5):∀i∈ids,i≠a.Ns.length:=fun i hi=>by
 rcases(h.jg i).2 (.inl hi)with⟨N,h1,_⟩|⟨_,rfl,c,h2⟩
 ·have:=bG h1;omega
 ·have h3:=h5 c h2;have h4:=h.dir.nodes;have h6:2^a.d≤2^4:=Nat.pow_le_pow_right (by decide) (by omega);omega
theorem aB.bounds (h:aB W0 E H C w0 G0 w F st):st.a.d≤5∧st.a.Ns.length≤32∧(∀c,st.a.cop=some c→st.a.d<5)∧(∀(i:Nat) (N:Nd),st.a.Ns[i]?=some N→dU H N):=by
 obtain⟨Fs,hF,hp⟩:=h.aD.pool;exact⟨hp.dir.le,hp.yB,fun c hc=>(hp.cop c.1 c.2 hc).fresh.le,fun i N hN=>(hp.lF i N hN).2⟩
theorem ZE (h:aB W0 E H C w0 G0 w F st)(id:Nat)(pend:List Nat)(hi:jV st.a st.ids (id::pend)):Calls Tryz.prog 118 #[bg C.mb,nI id] w fun e w'=>e= .returned undef∧uN W0 E H C w0 G0 st id w':=by
 obtain⟨b1,b2,b3,b4⟩:=h.bounds;have hl:=hi.lft id (by simp);rcases(hi.jg id).2 (.inr (by simp))with⟨N,hN,hb⟩|⟨hN,rfl,c,hc⟩
 ·rw[Wz hN]at hl;by_cases hm:N.many=2
  ·exact OZ h hi.dir (acI hi b3) id N hN hb hl hm
  ·exact OY h id N hN hb hl (by unfold Nd.many at hm⊢;split at hm<;>simp_all)
 ·refine Mj h c hc ?_;unfold Pool.left at hl;rw[hN,hc]at hl;have hl2:(if 32=32 then st.a.l.length-c.1 else 0)=0:=hl;rw[if_pos rfl]at hl2;have:=(hi.dir.cop c hc).2.1;omega
end
end Go.Proofs.YtnfjjbpmhcbelaaGreatDoor
