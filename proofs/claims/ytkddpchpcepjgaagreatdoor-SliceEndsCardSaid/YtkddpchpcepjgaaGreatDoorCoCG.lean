/- The pool of a core's jobs: its nodes, its directory, its copyist. -/
import Derived.Test.YtkddpchpcepjgaaGreatDoorCoBW
namespace Go.Proofs.YtkddpchpcepjgaaGreatDoor
set_option maxHeartbeats 1000000
open Go.RowKit cu
section
structure Pool where
 Ns:List Nd
 d:Nat
 l:List Nat
 cop:Option (Nat×List Nat)
structure dI where
 nb:Nat->Nat
 db:Nat
 eb:Nat
 cb:Nat
 fb:Nat
 fe:Nat
def dI.eP (A:dI)(c:Option (Nat×List Nat)):List Nat:=A.db::A.eb::(if c.isSome then [A.cb,A.fb,A.fe]else [])
def dI.jt (_:dI)(id:Nat):TypeId:=if id=32 then 136 else 126
def dI.ja (A:dI)(id:Nat):Addr:=⟨if id=32 then A.cb else A.nb id,0,none⟩
def iM (A:dI)(Fs:Nat->List Nat)(a:Pool):List Nat:=(List.range a.Ns.length).flatMap Fs++A.eP a.cop
theorem aR {A:dI}{Fs:Nat->List Nat}{a:Pool}{q:Nat}:q∈iM A Fs a↔(∃i,i<a.Ns.length/\q∈Fs i)\/q∈A.eP a.cop:=by
 unfold iM;rw[Zs,jz];simp[va]
structure jD (W0:World)(mb:Nat)(H:Nat->Nat)(A:dI)(w:World)(Fs:Nat->List Nat)(a:Pool):Prop where
 lW:∀(i:Nat) (N:Nd),a.Ns[i]?=some N->bM w (A.nb i) (Fs i) N/\dY H N
 dir:dH w A.db A.eb a.d a.l
 cop:∀(next:Nat) (lf:List Nat),a.cop=some (next,lf)->jO w A.cb A.db A.eb A.fb A.fe a.d next a.l lf
 sep:∀i j,i<a.Ns.length->j<a.Ns.length->i≠j->∀q∈Fs i,q∉Fs j
 xB:∀i,i<a.Ns.length->∀q∈Fs i,q∉A.eP a.cop
 low:∀q∈iM A Fs a,W0.heap.size<=q
 mb:mb∉iM A Fs a
 zk:a.Ns.length<=32
def BD (W0:World)(mb:Nat)(H:Nat->Nat)(A:dI)(w:World)(F:List Nat)(a:Pool):Prop:=∃Fs,F=iM A Fs a/\jD W0 mb H A w Fs a
def Pool.can (a:Pool)(id:Nat):Prop:=(∃N,a.Ns[id]?=some N/\N.ph.busy=true)\/(a.Ns[id]?=none/\id=32/\∃c,a.cop=some c)
def Pool.left (a:Pool)(id:Nat):Nat:=match a.Ns[id]? with
 |some N=>N.left
 |none=>match a.cop with
  |some c=>if id=32 then a.l.length-c.1 else 0
  |none=>0
def Pool.step (H:Nat->Nat)(a:Pool)(id:Nat)(a':Pool):Prop:=
 (∃N,a.Ns[id]?=some N/\N.ph.busy=true/\1<=N.left/\dY H N/\a'={a with Ns:=a.Ns.set id N.step})\/
 (a.Ns[id]?=none/\id=32/\∃c,a.cop=some c/\c.1<a.l.length/\a'={a with cop:=some (c.1+1,vC c.2 c.1 (a.l.getD c.1 0) 2)})
section
variable {W0 w w' : World} {mb : Nat} {H : Nat -> Nat} {A : dI} {Fs : Nat -> List Nat} {F : List Nat} {a : Pool}
theorem bJ {α:Type}{l:List α}{i:Nat}{x:α}(h:l[i]?=some x):i<l.length:=(zz.1 h).1
theorem jD.fC (h:jD W0 mb H A w Fs a):∀q∈iM A Fs a,q<w.heap.size:=by
 intro q hq;rcases aR.1 hq with⟨i,hi,hq⟩|hq
 ·exact(h.lW i _ (zg hi)).1.fC q hq
 ·unfold dI.eP at hq;simp only[zt]at hq;rcases hq with rfl|rfl|hq
  ·exact h.dir.lt
  ·exact h.dir.Ms
  ·cases hc:a.cop with
   |none=>rw[hc]at hq;simp at hq
   |some c=>
    have:=h.cop c.1 c.2 hc;rw[hc]at hq;simp at hq;rcases hq with rfl|rfl|rfl
    ·exact this.blk.lt
    ·exact this.fresh.lt
    ·exact this.fresh.Ms
theorem jD.mod {S:List Nat}(h:jD W0 mb H A w Fs a)(hm:Mod S w w')(hS:∀q∈iM A Fs a,q∉S):jD W0 mb H A w' Fs a:=
 ⟨λi N hN=>⟨(h.lW i N hN).1.mod hm (λq hq=>hS q (aR.2 (.inl ⟨i,bJ hN,hq⟩))),(h.lW i N hN).2⟩,
  h.dir.mod hm (hS _ (aR.2 (.inr (by simp[dI.eP])))) (hS _ (aR.2 (.inr (by simp[dI.eP])))),
  λnext lf hc=>(h.cop next lf hc).mod hm (λq hq=>hS q (aR.2 (.inr (by unfold dI.eP;rw[hc];simp at hq|-;omega)))),
  h.sep,h.xB,h.low,h.mb,h.zk⟩
theorem jD.node (h:jD W0 mb H A w Fs a){id:Nat}{N N':Nd}{F' S:List Nat}(hN:a.Ns[id]?=some N)(hA:bM w' (A.nb id) F' N')(hO:dY H N')(hF:∀q∈F',q∈Fs id\/w.heap.size<=q)(hm:Mod S w w')(hS:∀q∈S,q=mb\/q∈Fs id)(h0:W0.heap.size<=w.heap.size)(hmb:mb<w.heap.size):
  jD W0 mb H A w' (λi=>if i=id then F' else Fs i) {a with Ns:=a.Ns.set id N'}:=by
 have hid:=bJ hN;have hlts:=h.fC
 have hset:∀(i:Nat) (X:Nd),(a.Ns.set id N')[i]?=some X->(i=id/\X=N')\/(i≠id/\a.Ns[i]?=some X):=λi X hX=>by
  rw[qr]at hX;by_cases hi:id=i
  ·rw[if_pos hi,if_pos hid]at hX;cases hX;exact .inl ⟨hi.symm,rfl⟩
  ·rw[if_neg hi]at hX;exact .inr ⟨λe=>hi e.symm,hX⟩
 have hin:∀q,q∈iM A (λi=>if i=id then F' else Fs i) {a with Ns:=a.Ns.set id N'}->q∈iM A Fs a\/w.heap.size<=q:=λq hq=>by
  rcases aR.1 hq with⟨i,hi,hq⟩|hq
  ·simp only[qq]at hi;by_cases e:i=id
   ·simp only[if_pos e]at hq;rcases hF q hq with h1|h1
    ·exact .inl (aR.2 (.inl ⟨id,hid,h1⟩))
    ·exact .inr h1
   ·simp only[if_neg e]at hq;exact .inl (aR.2 (.inl ⟨i,hi,hq⟩))
  ·exact .inl (aR.2 (.inr hq))
 have hkeep:∀i,i<a.Ns.length->i≠id->∀q∈Fs i,q∉S:=λi hi he q hq dS=>by
  rcases hS q dS with rfl|h1
  ·exact h.mb (aR.2 (.inl ⟨i,hi,hq⟩))
  ·exact h.sep i id hi hid he q hq h1
 have hkd:∀q∈A.eP a.cop,q∉S:=λq hq dS=>by
  rcases hS q dS with rfl|h1
  ·exact h.mb (aR.2 (.inr hq))
  ·exact h.xB id hid q h1 hq
 refine⟨λi X hX=> ?_,h.dir.mod hm (hkd _ (by simp[dI.eP])) (hkd _ (by simp[dI.eP])),λnext lf hc=>(h.cop next lf hc).mod hm (λq hq=>hkd q (by have hc':a.cop=some (next,lf):=hc;unfold dI.eP;rw[hc'];simp at hq|-;omega)),λi j hi hj hij q hq hq2=> ?_,λi hi q hq hq2=> ?_,λq hq=> ?_,λhq=> ?_,by simpa using h.zk⟩
 ·rcases hset i X hX with⟨rfl,rfl⟩|⟨h1,h2⟩
  ·simp only[if_pos];exact⟨hA,hO⟩
  ·simp only[if_neg h1];exact⟨(h.lW i X h2).1.mod hm (hkeep i (bJ h2) h1),(h.lW i X h2).2⟩
 ·simp only[qq]at hi hj
  by_cases e1:i=id<;>by_cases e2:j=id
  ·exact hij (e1.trans e2.symm)
  ·simp only[if_pos e1]at hq;simp only[if_neg e2]at hq2;rcases hF q hq with h1|h1
   ·exact h.sep j id hj hid e2 q hq2 h1
   ·have:=hlts q (aR.2 (.inl ⟨j,hj,hq2⟩));omega
  ·simp only[if_neg e1]at hq;simp only[if_pos e2]at hq2;rcases hF q hq2 with h1|h1
   ·exact h.sep i id hi hid e1 q hq h1
   ·have:=hlts q (aR.2 (.inl ⟨i,hi,hq⟩));omega
  ·simp only[if_neg e1]at hq;simp only[if_neg e2]at hq2;exact h.sep i j hi hj hij q hq hq2
 ·simp only[qq]at hi;by_cases e1:i=id
  ·simp only[if_pos e1]at hq;rcases hF q hq with h1|h1
   ·exact h.xB id hid q h1 hq2
   ·have:=hlts q (aR.2 (.inr hq2));omega
  ·simp only[if_neg e1]at hq;exact h.xB i hi q hq hq2
 ·rcases hin q hq with h1|h1
  ·exact h.low q h1
  ·omega
 ·rcases hin mb hq with h1|h1
  ·exact h.mb h1
  ·omega
theorem jD.copied (h:jD W0 mb H A w Fs a){c c':Nat×List Nat}{S:List Nat}(hc:a.cop=some c)(hC:jO w' A.cb A.db A.eb A.fb A.fe a.d c'.1 a.l c'.2)(hm:Mod S w w')(hS:∀q∈S,q=mb\/q∈A.eP a.cop):
  jD W0 mb H A w' Fs {a with cop:=some c'}/\iM A Fs {a with cop:=some c'}=iM A Fs a:=by
 have hd:A.eP (some c')=A.eP a.cop:=by rw[hc];rfl
 have hf:iM A Fs {a with cop:=some c'}=iM A Fs a:=by unfold iM;rw[<-hd]
 refine⟨⟨λi N hN=>⟨(h.lW i N hN).1.mod hm (λq hq dS=> ?_),(h.lW i N hN).2⟩,hC.old,λnext lf hcc=> ?_,h.sep,λi hi q hq=>by show q∉A.eP (some c');rw[hd];exact h.xB i hi q hq,λq hq=>h.low q (hf▸hq),λhq=>h.mb (hf▸hq),h.zk⟩,hf⟩
 ·have hi:=bJ hN;rcases hS q dS with rfl|h1
  ·exact h.mb (aR.2 (.inl ⟨i,hi,hq⟩))
  ·exact h.xB i hi q hq h1
 ·have:c'=(next,lf):=QP hcc;rw[this]at hC;exact hC
end
theorem aeo (A:dI)(id:Nat):Au (A.jt id):=by
 unfold dI.jt Au;split
 ·exact .inr rfl
 ·exact .inl rfl
theorem Qj {A:dI}{id:Nat}(h:id≠32):jW (A.jt id)=275 /\xX (A.jt id)=276 /\A.ja id=⟨A.nb id,0,none⟩:=by
 unfold dI.jt dI.ja;rw[if_neg h,if_neg h];exact⟨rfl,rfl,rfl⟩
theorem Tn (A:dI):jW (A.jt 32)=217 /\xX (A.jt 32)=294 /\A.ja 32=⟨A.cb,0,none⟩:=by
 unfold dI.jt dI.ja;rw[if_pos rfl,if_pos rfl];exact⟨by kernel_rfl,by kernel_rfl,rfl⟩
theorem Fz {W0:World}{E:Nat->Addr}{P:MP}{H:Nat->Nat}(A:dI)(hb0:W0.heap.size<=P.mb):jk W0 E P A.jt A.ja (BD W0 P.mb H A) Pool.can Pool.left (Pool.step H) where
 P5:=λ_=>aeo A _
 lt:=fun⟨Fs,hF,h⟩ q hq=>⟨h.fC q (hF▸hq),h.low q (hF▸hq)⟩
 mb:=fun⟨Fs,hF,h⟩ hq=>h.mb (hF▸hq)
 Av:=fun⟨Fs,hF,h⟩ hm hS=>⟨Fs,hF,h.mod hm (λq hq=>hS q (hF▸hq))⟩
 le:=fun{V F a id} ⟨Fs,hF,h⟩ hc=>by
  unfold Pool.left;rcases hc with⟨N,hN,hb⟩|⟨hN,rfl,c,hc⟩
  ·rw[hN];obtain⟨_,ho⟩:=h.lW id N hN;have h1:=ho.pw.le;have bV:=ho.ph;unfold lN at bV;show N.left<=1000;unfold Nd.left
   cases hp:N.ph with
   |idle=>simp
   |nR k=>
    rw[hp]at bV;obtain⟨k1,k2,k3,k4,_⟩:=gF ho.pw bV.1;simp only;omega
   |jq Ts next=>simp only;omega
  ·rw[hN,hc];have:=h.dir.small;show(if 32=32 then a.l.length-c.1 else 0)<=1000;rw[if_pos rfl];omega
 xY:=fun{V F a id} ⟨Fs,hF,h⟩ hc=>by
  rcases hc with⟨N,hN,hb⟩|⟨hN,rfl,c,hc⟩
  ·have hi:=bJ hN;have:=h.zk;obtain⟨j1,j2,j3⟩:=Qj (A:=A) (id:=id) (by omega);obtain⟨hA,ho⟩:=h.lW id N hN
   have hl:a.left id=N.left:=by unfold Pool.left;rw[hN]
   rw[j1,j3,hl];exact adg hA ho
  ·obtain⟨j1,j2,j3⟩:=Tn A
   have hl:a.left 32=a.l.length-c.1:=by unfold Pool.left;rw[hN,hc];rfl
   rw[j1,j3,hl];exact(yZ A.cb A.db A.eb A.fb A.fe a.d c.1 a.l c.2 V (h.cop c.1 c.2 hc)).mono λe w' ⟨h1,h2⟩=>⟨h1,h2▸(Below.refl _ _).drew⟩
 aci:=fun{V F a id x} ⟨Fs,hF,h⟩ hc hl hE hM=>by
  have hml:=hM.lt;rcases hc with⟨N,hN,hb⟩|⟨hN,rfl,c,hc⟩
  ·have hi:=bJ hN;have:=h.zk;obtain⟨j1,j2,j3⟩:=Qj (A:=A) (id:=id) (by omega);obtain⟨hA,ho⟩:=h.lW id N hN
   have hl':a.left id=N.left:=by unfold Pool.left;rw[hN]
   rw[hl']at hl;rw[j2,j3];refine(adh hA ho hl hM hE hb0 (λhq=>h.mb (aR.2 (.inl ⟨id,hi,hq⟩))) (λq hq=>h.low q (aR.2 (.inl ⟨id,hi,hq⟩)))).mono ?_;rintro e V' ⟨rfl,F',x',h1,h2,h3,h4,h5⟩
   have hP:=h.node hN h1 (step_ok ho hl) h2 h5 (λq hq=>by
    rcases zt.1 hq with h6|h6
    ·exact .inl h6
    ·exact .inr h6) hE.size hml
   refine⟨rfl,_,_,x',.inl ⟨N,hN,hb,hl,ho,rfl⟩,⟨_,rfl,hP⟩,λq hq=> ?_,h3,h4,h5.more (λq hq=> ?_)⟩
   ·rw[hF];rcases aR.1 hq with⟨i,hi2,hq2⟩|hq2
    ·simp only[qq]at hi2;by_cases e1:i=id
     ·simp only[if_pos e1]at hq2;rcases h2 q hq2 with h6|h6
      ·exact .inl (aR.2 (.inl ⟨id,hi,h6⟩))
      ·exact .inr h6
     ·simp only[if_neg e1]at hq2;exact .inl (aR.2 (.inl ⟨i,hi2,hq2⟩))
    ·exact .inl (aR.2 (.inr hq2))
   ·rcases zt.1 hq with h6|h6
    ·simp[h6]
    ·exact qu _ (hF▸aR.2 (.inl ⟨id,hi,h6⟩))
  ·obtain⟨j1,j2,j3⟩:=Tn A
   have hl':a.left 32=a.l.length-c.1:=by unfold Pool.left;rw[hN,hc];rfl
   rw[hl']at hl;rw[j2,j3]
   have hdF:∀q∈[A.cb,A.db,A.eb,A.fb,A.fe],q∈A.eP a.cop:=λq hq=>by
    unfold dI.eP;rw[hc];simp at hq|-;omega
   refine(PK A.cb A.db A.eb A.fb A.fe a.d c.1 a.l c.2 P x (by omega) V (h.cop c.1 c.2 hc) hM (λhq=>h.mb (aR.2 (.inr (hdF _ hq))))).mono ?_;rintro e V' ⟨rfl,h1,h2,h3⟩
   have hS:∀q∈[P.mb,A.cb,A.fe],q=P.mb\/q∈A.eP a.cop:=λq hq=>by
    simp at hq;rcases hq with rfl|rfl|rfl
    ·exact .inl rfl
    ·exact .inr (hdF _ (by simp))
    ·exact .inr (hdF _ (by simp))
   obtain⟨hP,hPf⟩:=h.copied (c':=(c.1+1,vC c.2 c.1 (a.l.getD c.1 0) 2)) hc h1 h3 hS;refine⟨rfl,_,_,_,.inr ⟨hN,rfl,c,hc,by omega,rfl⟩,⟨Fs,rfl,hP⟩,λq hq=> .inl (by rw[hF,<-hPf];exact hq),h2,tZ x 1,h3.more (λq hq=> ?_)⟩;rcases hS q hq with h6|h6
   ·simp[h6]
   ·exact qu _ (hF▸aR.2 (.inr h6))
 jL:=fun{a id a' j} hs hc=>by
  rcases hs with⟨N,hN,hb,_,_,rfl⟩|⟨hN,hid,c,hc',_,rfl⟩
  ·rcases hc with⟨M,hM,hb2⟩|⟨hM,rfl,c,hc⟩
   ·left;by_cases e:id=j
    ·subst e;exact⟨N.step,by simp[bJ hN],by rw[(sG N).busy];exact hb⟩
    ·exact⟨M,by simp[e,hM],hb2⟩
   ·right;refine⟨?_,rfl,c,hc⟩;simp at hM|-;omega
  ·rcases hc with⟨M,hM,hb2⟩|⟨hM,rfl,c2,hc⟩
   ·exact .inl ⟨M,hM,hb2⟩
   ·exact .inr ⟨hM,rfl,_,rfl⟩
 MF:=fun{a id a' j} hs hne=>by
  unfold Pool.left;rcases hs with⟨N,hN,hb,_,_,rfl⟩|⟨hN,hid,c,hc',_,rfl⟩
  ·simp only;rw[qr,if_neg (λe=>hne e.symm)]
  ·simp only
   cases hj:a.Ns[j]? with
   |some N=>rfl
   |none=>
    rw[hc'];show(if j=32 then _ else 0)=(if j=32 then _ else 0);rw[if_neg (by omega),if_neg (by omega)]
 Eo:=fun{a id a'} hs=>by
  unfold Pool.left;rcases hs with⟨N,hN,hb,hl,ho,rfl⟩|⟨hN,rfl,c,hc',hl,rfl⟩
  ·simp only;rw[qr,if_pos rfl,if_pos (bJ hN),hN];exact Xy ho hl
  ·simp only;rw[hN,hc'];show(if 32=32 then a.l.length-(c.1+1)else 0)+1=(if 32=32 then a.l.length-c.1 else 0);rw[if_pos rfl,if_pos rfl];omega
end
section
variable {hash id p : Nat} {N : Nd}
structure fB (a:Pool):Prop where
 fit:∀(i:Nat) (N:Nd),a.Ns[i]?=some N->N.au<=a.d/\N.pfx<2^N.au
 Tp:∀j,j<2^a.d->∃N,a.Ns[a.l.getD j 0]?=some N/\j/2^(a.d-N.au)=N.pfx
 from_:∀(i:Nat) (N:Nd) (j:Nat),a.Ns[i]?=some N->j<2^a.d->j/2^(a.d-N.au)=N.pfx->a.l.getD j 0=i
 len:a.l.length=2^a.d
 split:∀(i:Nat) (N:Nd),a.Ns[i]?=some N->N.ph.busy=true->N.kind=3->N.au<a.d
 cop:∀c,a.cop=some c->c.2.length=2^(a.d+1)/\c.1<=a.l.length/\∀j,j<2*c.1->c.2.getD j 0=a.l.getD (j/2) 0
theorem pos2 (e:Nat):0<2^e:=Nat.pow_pos (by decide)
theorem wR {j e:Nat}:j/2^e=p↔p*2^e<=j/\j<p*2^e+2^e:=by
 have hp:=pos2 e;generalize 2^e=m at*;constructor
 ·rintro rfl;have h1:=Nat.div_add_mod j m;have h2:=kA j hp;rw[vr]at h1;omega
 ·rintro⟨h1,h2⟩;have h3:p<=j/m:=(Nat.le_div_iff_mul_le hp).2 h1;have h4:j/m<p+1:=(Nat.div_lt_iff_lt_mul hp).2 (by rw[Nat.succ_mul];exact h2);omega
theorem Tq {h d:Nat}(hd:p<=d)(hd5:d<=5):eu h d/2^(d-p)=eu h p:=by
 unfold eu;rw[kw,<-Nat.pow_add];congr 2;omega
theorem fB.at_ {a:Pool}(h:fB a)(h64:hash<18446744073709551616)(h5:a.d<=5):∃N,a.Ns[a.l.getD (eu hash a.d) 0]?=some N/\eu hash N.au=N.pfx:=by
 obtain⟨N,h1,h2⟩:=h.Tp (eu hash a.d) (BS h64 (by omega));exact⟨N,h1,by rw[<-h2,Tq (h.fit _ _ h1).1 h5]⟩
theorem fB.Qk {a:Pool}(h:fB a){i:Nat}(h64:hash<18446744073709551616)(h5:a.d<=5)(hN:a.Ns[i]?=some N)(ht:eu hash N.au=N.pfx):a.l.getD (eu hash a.d) 0=i:=
 h.from_ i N _ hN (BS h64 (by omega)) (by rw[Tq (h.fit _ _ hN).1 h5];exact ht)
theorem KU:∀(l l':List Nat),l.Nodup->(∀x∈l,x∈l')->l.length<=l'.length
 | [],_,_,_=>Q4 _
 |x::l,l',hn,hs=>by
  rw[qa]at hn;have hx:=hs x (by simp);have h1:=KU l (l'.erase x) hn.2 (λy hy=>(List.mem_erase_of_ne (λe=>hn.1 (by rw[<-e];exact hy))).2 (hs y (by simp[hy])));rw[K1 hx]at h1;have:0<l'.length:=List.length_pos_of_mem hx;simp only[ZS];omega
theorem fB.nodes {a:Pool}(h:fB a):a.Ns.length<=2^a.d:=by
 have:=KU (List.range a.Ns.length) ((List.range (2^a.d)).map λj=>a.l.getD j 0) List.nodup_range (λi hi=>by
  rw[va]at hi;obtain⟨N,hN⟩:∃N,a.Ns[i]?=some N:=⟨_,zg hi⟩;obtain⟨h1,h2⟩:=h.fit i N hN
  refine Z3.2 ⟨N.pfx*2^(a.d-N.au),va.2 ?_,h.from_ i N _ hN ?_ (Nat.mul_div_cancel _ (pos2 _))⟩<;>
  ·have h3:N.pfx*2^(a.d-N.au)<2^N.au*2^(a.d-N.au):=Nat.mul_lt_mul_of_pos_right h2 (pos2 _);rw[<-Nat.pow_add,Nat.add_sub_cancel' h1]at h3
   exact h3)
 simpa using this
theorem Tt (l:List Nat)(fr id:Nat):∀j i,(j6 l fr id j).getD i 0=if fr<=i/\i<fr+j/\i<l.length then id else l.getD i 0
 |0,i=>by unfold j6;rw[if_neg (by omega)]
 |j+1,i=>by
  unfold j6;have ih:=Tt l fr id j i;rw[zv,qr];by_cases h1:fr+j=i
  ·rw[if_pos h1,mY];by_cases h2:fr+j<l.length
   ·rw[if_pos h2,if_pos (by omega)];rfl
   ·rw[if_neg h2,if_neg (by omega)];rw[zv,yo (by omega)]
  ·rw[if_neg h1,<-zv,ih];by_cases h3:fr<=i/\i<fr+j/\i<l.length
   ·rw[if_pos h3,if_pos (by omega)]
   ·rw[if_neg h3,if_neg (by omega)]
theorem Tv (lf:List Nat)(i id j:Nat)(hi:2*i+1<lf.length):(vC lf i id 2).getD j 0=if j/2=i then id else lf.getD j 0:=by
 show(((lf.set (2*i+0) id)).set (2*i+1) id).getD j 0=_;rw[zv,qr,qr,qq];by_cases h1:2*i+1=j
 ·rw[if_pos h1,if_pos hi,if_pos (by omega)];rfl
 ·rw[if_neg h1];by_cases h2:2*i+0=j
  ·rw[if_pos h2,if_pos (by omega),if_pos (by omega)];rfl
  ·rw[if_neg h2,if_neg (by omega),<-zv]
theorem Tw (lf lo:List Nat)(fr:Nat):∀c j,2*(fr+c)<=lf.length->(qV lf lo fr c).getD j 0=if fr<=j/2/\j/2<fr+c then lo.getD (j/2) 0 else lf.getD j 0
 |0,j,_=>by unfold qV;rw[if_neg (by omega)]
 |c+1,j,h=>by
  unfold qV;rw[Tv _ _ _ _ (by rw[Aq];omega),Tw lf lo fr c j (by omega)];by_cases h1:j/2=fr+c
  ·rw[if_pos h1,if_pos (by omega),h1]
  ·rw[if_neg h1];by_cases h2:fr<=j/2/\j/2<fr+c
   ·rw[if_pos h2,if_pos (by omega)]
   ·rw[if_neg h2,if_neg (by omega)]
theorem fB.alike {a:Pool}(h:fB a){N':Nd}(hN:a.Ns[id]?=some N)(h1:N'.pfx=N.pfx)(h2:N'.au=N.au)(h3:N'.ph.busy=true->N'.kind=3->N.au<a.d):fB {a with Ns:=a.Ns.set id N'}:=by
 have hid:=bJ hN
 have hset:∀(i:Nat) (X:Nd),(a.Ns.set id N')[i]?=some X->∃Y,a.Ns[i]?=some Y/\X.pfx=Y.pfx/\X.au=Y.au/\(X=Y\/X=N'/\Y=N):=λi X hX=>by
  rw[qr]at hX;by_cases hi:id=i
  ·subst hi;rw[if_pos rfl,if_pos hid]at hX;cases hX;exact⟨N,hN,h1,h2,.inr ⟨rfl,rfl⟩⟩
  ·rw[if_neg hi]at hX;exact⟨X,hX,rfl,rfl,.inl rfl⟩
 have afH:∀(i:Nat) (Y:Nd),a.Ns[i]?=some Y->∃X,(a.Ns.set id N')[i]?=some X/\X.pfx=Y.pfx/\X.au=Y.au:=λi Y hY=>by
  rw[qr];by_cases hi:id=i
  ·subst hi;rw[hN]at hY;cases hY;exact⟨N',by rw[if_pos rfl,if_pos hid],h1,h2⟩
  ·exact⟨Y,by rw[if_neg hi];exact hY,rfl,rfl⟩
 refine⟨λi X hX=> ?_,λj hj=> ?_,λi X j hX hj hp=> ?_,h.len,λi X hX hb hk=> ?_,h.cop⟩
 ·obtain⟨Y,g1,g2,g3,_⟩:=hset i X hX;rw[g2,g3];exact h.fit i Y g1
 ·obtain⟨Y,g1,g2⟩:=h.Tp j hj;obtain⟨X,g3,g4,g5⟩:=afH _ Y g1;exact⟨X,g3,by rw[g4,g5];exact g2⟩
 ·obtain⟨Y,g1,g2,g3,_⟩:=hset i X hX;rw[g2,g3]at hp;exact h.from_ i Y j g1 hj hp
 ·obtain⟨Y,g1,g2,g3,g4⟩:=hset i X hX;rcases g4 with rfl|⟨rfl,rfl⟩
  ·exact h.split i X g1 hb hk
  ·rw[g3];exact h3 hb hk
theorem fB.step {H:Nat->Nat}{a a':Pool}(h:fB a)(hs:a.step H id a'):fB a':=by
 rcases hs with⟨N,hN,hb,_,_,rfl⟩|⟨hN,rfl,c,hc,hl,rfl⟩
 ·have hL:=sG N;exact h.alike hN hL.pfx hL.au (λ_ hk=>h.split id N hN hb (by rw[<-hL.kind];exact hk))
 ·refine⟨h.fit,h.Tp,h.from_,h.len,h.split,λc' hc'=> ?_⟩;obtain⟨h1,h2,h3⟩:=h.cop c hc;have hc2:c'=(c.1+1,vC c.2 c.1 (a.l.getD c.1 0) 2):=(QP hc').symm;rw[hc2];have hlen:=h.len;have hpw:2^(a.d+1)=2^a.d*2:=xd ..;refine⟨by simp only;rw[vS];exact h1,by simp only;omega,λj hj=> ?_⟩;simp only at hj|-;rw[Tv _ _ _ _ (by omega)];by_cases hj2:j/2=c.1
  ·rw[if_pos hj2,hj2]
  ·rw[if_neg hj2];exact h3 j (by omega)
theorem fB.double {a:Pool}(h:fB a)(_:a.cop=none):fB {a with cop:=some (0,List.replicate (2^(a.d+1)) 0)}:=
 ⟨h.fit,h.Tp,h.from_,h.len,h.split,λc hcc=>by
  have hc2:c=(0,List.replicate (2^(a.d+1)) 0):=(QP hcc).symm;rw[hc2]
  exact⟨by simp,Q4 _,λj hj=>by simp at hj⟩⟩
theorem fB.take {a:Pool}(h:fB a){c:Nat×List Nat}(hc:a.cop=some c)(hl:c.1=a.l.length):fB {a with d:=a.d+1,l:=c.2,cop:=none}:=by
 obtain⟨h1,h2,h3⟩:=h.cop c hc;have hlen:=h.len;have hpw:2^(a.d+1)=2^a.d*2:=xd ..
 have hdv:∀j p,p<=a.d->j/2^(a.d+1-p)=j/2/2^(a.d-p):=λj p hp=>by
  rw[kw,show a.d+1-p=(a.d-p)+1 by omega,xd,vr]
 refine⟨λi N hN=>⟨Nat.le_succ_of_le (h.fit i N hN).1,(h.fit i N hN).2⟩,λj hj=> ?_,λi N j hN hj hp=> ?_,h1,λi N hN hb hk=>Nat.lt_succ_of_lt (h.split i N hN hb hk),λc hc=>by cases hc⟩
 ·show∃N,a.Ns[c.2.getD j 0]?=some N/\j/2^(a.d+1-N.au)=N.pfx;have hj':j<2^(a.d+1):=hj;obtain⟨N,g1,g2⟩:=h.Tp (j/2) (by omega);rw[h3 j (by omega)];exact⟨N,g1,by rw[hdv j _ (h.fit _ _ g1).1];exact g2⟩
 ·show c.2.getD j 0=i;have hj':j<2^(a.d+1):=hj;have hp':j/2^(a.d+1-N.au)=N.pfx:=hp;rw[h3 j (by omega)];rw[hdv j _ (h.fit _ _ hN).1]at hp';exact h.from_ i N _ hN (by omega) hp'
def Pool.split (a:Pool)(id:Nat)(N0 N1:Nd):Pool:=
 let fr:=dA N1.pfx N1.au a.d
 let n:=2^(a.d-N1.au)
 let l':=j6 a.l fr a.Ns.length n
 {Ns:=a.Ns.set id N0++[N1],d:=a.d,l:=l',cop:=a.cop.map λc=>(c.1,qV c.2 l' fr (min (fr+n) c.1-fr))}
theorem fB.X0 {a:Pool}(h:fB a){N0 N1:Nd}(hN:a.Ns[id]?=some N)(hd:N.au<a.d)(h0:N0.pfx=2*N.pfx/\N0.au=N.au+1/\N0.ph.busy=false)(h1:N1.pfx=2*N.pfx+1/\N1.au=N.au+1/\N1.ph.busy=false):fB (a.split id N0 N1):=by
 have hid:=bJ hN;obtain⟨g1,g2⟩:=h.fit id N hN;have hpw:2^(N.au+1)=2^N.au*2:=xd ..;obtain⟨e,he⟩:∃e,e=a.d-(N.au+1):=⟨_,rfl⟩
 have he1:a.d-N.au=e+1:=by omega
 have hpe:2^(e+1)=2^e*2:=xd ..;have hlen:=h.len
 have acn:dA N1.pfx N1.au a.d=(2*N.pfx+1)*2^e:=by unfold dA;rw[h1.1,h1.2.1,he]
 have hn:2^(a.d-N1.au)=2^e:=by rw[h1.2.1,he]
 have hft:(2*N.pfx+1)*2^e+2^e<=2^a.d:=by
  have h3:=Fv (p:=2*N.pfx+1) (pd:=N.au+1) (d:=a.d) (by omega) (by omega);unfold dA at h3;rw[<-he]at h3;exact h3
 have hl':∀j,j<2^a.d->(a.split id N0 N1).l.getD j 0=if j/2^e=2*N.pfx+1 then a.Ns.length else a.l.getD j 0:=λj hj=>by
  show(j6 a.l (dA N1.pfx N1.au a.d) a.Ns.length (2^(a.d-N1.au))).getD j 0=_;rw[Tt,acn,hn];by_cases h3:j/2^e=2*N.pfx+1
  ·rw[if_pos h3,if_pos ⟨(wR.1 h3).1,(wR.1 h3).2,by omega⟩]
  ·rw[if_neg h3,if_neg (λhh=>h3 (wR.2 ⟨hh.1,hh.2.1⟩))]
 have hdv:∀j,j/2^(e+1)=j/2^e/2:=λj=>by rw[kw,xd]
 have hget:∀(i:Nat) (X:Nd),(a.split id N0 N1).Ns[i]?=some X->(i=id/\X=N0)\/(i=a.Ns.length/\X=N1)\/(i≠id/\i<a.Ns.length/\a.Ns[i]?=some X):=λi X hX=>by
  have jc:(a.Ns.set id N0++[N1])[i]?=some X:=hX;by_cases hi:i<a.Ns.length
  ·rw[Z2 (by simpa using hi),qr]at jc;by_cases hii:id=i
   ·subst hii;rw[if_pos rfl,if_pos hid]at jc;cases jc;exact .inl ⟨rfl,rfl⟩
   ·rw[if_neg hii]at jc;exact .inr (.inr ⟨λhh=>hii hh.symm,hi,jc⟩)
  ·rw[Z1 (by simpa using hi),qq]at jc
   have hi0:i-a.Ns.length=0:=by have:=bJ jc;simp at this;omega
   rw[hi0]at jc;cases jc;exact .inr (.inl ⟨by omega,rfl⟩)
 have afI:(a.split id N0 N1).Ns[id]?=some N0:=by
  show(a.Ns.set id N0++[N1])[id]?=some N0;rw[Z2 (by simpa using hid)];simp[hid]
 have afJ:(a.split id N0 N1).Ns[a.Ns.length]?=some N1:=by
  show(a.Ns.set id N0++[N1])[a.Ns.length]?=some N1;rw[Z1 (by simp)];simp
 have afK:∀(i:Nat) (X:Nd),i≠id->a.Ns[i]?=some X->(a.split id N0 N1).Ns[i]?=some X:=λi X hi hX=>by
  show(a.Ns.set id N0++[N1])[i]?=some X;rw[Z2 (by simpa using bJ hX),qr,if_neg (λhh=>hi hh.symm)];exact hX
 have hd':(a.split id N0 N1).d=a.d:=rfl;refine⟨λi X hX=> ?_,λj hj=> ?_,λi X j hX hj hp=> ?_,by show(j6 _ _ _ _).length=_;rw[mY];exact hlen,λi X hX hb hk=> ?_,λc hc=> ?_⟩
 ·rcases hget i X hX with⟨_,rfl⟩|⟨_,rfl⟩|⟨_,_,h3⟩
  ·rw[h0.1,h0.2.1,hd'];omega
  ·rw[h1.1,h1.2.1,hd'];omega
  ·exact h.fit i X h3
 ·rw[hl' j hj];by_cases h3:j/2^e=2*N.pfx+1
  ·rw[if_pos h3];exact⟨N1,afJ,by rw[hd',h1.2.1,<-he,h1.1];exact h3⟩
  ·rw[if_neg h3];obtain⟨X,x1,x2⟩:=h.Tp j hj;by_cases h4:a.l.getD j 0=id
   ·rw[h4]at x1|-;rw[hN]at x1;cases x1;rw[he1,hdv]at x2;exact⟨N0,afI,by rw[hd',h0.2.1,<-he,h0.1];omega⟩
   ·exact⟨X,afK _ X h4 x1,x2⟩
 ·rw[hl' j hj];rw[hd']at hp;rcases hget i X hX with⟨rfl,rfl⟩|⟨rfl,rfl⟩|⟨h3,h4,h5⟩
  ·rw[h0.2.1,<-he,h0.1]at hp;rw[if_neg (by omega)];exact h.from_ i N j hN hj (by rw[he1,hdv,hp];omega)
  ·rw[h1.2.1,<-he,h1.1]at hp;rw[if_pos hp]
  ·have h6:=h.from_ i X j h5 hj hp;rw[if_neg (λhh=> ?_)]
   ·exact h6
   ·have:=h.from_ id N j hN hj (by rw[he1,hdv,hh];omega);exact h3 (h6.symm.trans this)
 ·rcases hget i X hX with⟨_,rfl⟩|⟨_,rfl⟩|⟨_,_,h5⟩
  ·rw[h0.2.2]at hb;cases hb
  ·rw[h1.2.2]at hb;cases hb
  ·exact h.split i X h5 hb hk
 ·have hc':(a.cop.map λc=>(c.1,qV c.2 (a.split id N0 N1).l (dA N1.pfx N1.au a.d) (min (dA N1.pfx N1.au a.d+2^(a.d-N1.au)) c.1-dA N1.pfx N1.au a.d)))=some c:=hc
  cases hcc:a.cop with
  |none=>rw[hcc]at hc';cases hc'
  |some c0=>
   rw[hcc]at hc';obtain⟨k1,k2,k3⟩:=h.cop c0 hcc;have hc2:=(QP hc').symm;rw[acn,hn]at hc2;have aiq:2^(a.d+1)=2^a.d*2:=xd ..
   have hll:(a.split id N0 N1).l.length=a.l.length:=by show(j6 _ _ _ _).length=_;rw[mY]
   rw[hc2];refine⟨by simp only;rw[Aq];exact k1,by simp only;rw[hll];exact k2,λj hj=> ?_⟩;simp only at hj|-;rw[Tw _ _ _ _ _ (by omega)];by_cases h3:(2*N.pfx+1)*2^e<=j/2/\j/2<(2*N.pfx+1)*2^e+(min ((2*N.pfx+1)*2^e+2^e) c0.1-(2*N.pfx+1)*2^e)
   ·rw[if_pos h3]
   ·rw[if_neg h3,k3 j hj,hl' (j/2) (by omega),if_neg (λhh=> ?_)];have:=wR.1 hh;omega
end
section
variable {F' S : List Nat} {x' : bS}
structure iW where
 mb:Nat
 sb:Nat
 qb:Nat
 rb:Nat
 jb:Nat
 A:dI
 v:Value
 K:Nat
 M:Nat
 I:Nat
 m:Int
structure lX where
 a:Pool
 ids:List Nat
 len:Nat
 b:Int
 x:bS
def dI.val (A:dI)(id:Nat):Value:= .iface (A.jt id) (.pointer (some (A.ja id)))
def iW.s (C:iW):SP:=⟨C.sb,C.qb,C.rb,C.jb,(C.K:Int),C.A.val⟩
def mI (A:dI)(c:Option (Nat×List Nat)):Value:= .pointer (if c.isSome then some ⟨A.cb,0,none⟩else none)
def cmp (C:iW)(st:lX):MP:=⟨C.mb,138,[nI C.K,nI C.M,nI C.I],[C.v,pQ C.A.db,mI C.A st.a.cop,pQ C.sb,nI st.len],3,C.m⟩
def iW.foot (C:iW)(F:List Nat):List Nat:=C.mb::(C.s.blocks++(F++C.v.ownBlock.toList))
def kI (A:dI)(n:Nat):List Value:=ptrs ((List.range n).map A.nb)
structure aD (W0:World)(E:Nat->Addr)(H:Nat->Nat)(C:iW)(w0:World)(G0:List Nat)(w:World)(F:List Nat)(st:lX):Prop where
 aF:bH W0 E (cmp C st) (BD W0 C.mb H C.A) C.s w F w st.b st.ids st.a F st.x
 row:w.ownsRow W0.heap.size 126 1 C.v st.a.Ns.length (kI C.A st.a.Ns.length)
 BF:oN (cmp C st) C.s F C.v
 pos:1<=st.a.Ns.length
 kk:1<=C.K/\C.K<=64
 mm:1<=C.M/\C.M<=192
 qN:W0.heap.size<=w0.heap.size
 sub:∀q∈C.foot F,q∈G0\/w0.heap.size<=q
 mod:Mod G0 w0 w
section
variable {W0 : World} {E : Nat -> Addr} {H : Nat -> Nat} {C : iW} {w0 : World} {G0 : List Nat} {w w' : World} {F : List Nat} {st : lX}
theorem aD.hp (h:aD W0 E H C w0 G0 w F st):jk W0 E (cmp C st) C.A.jt C.A.ja (BD W0 C.mb H C.A) Pool.can Pool.left (Pool.step H):=Fz (P:=cmp C st) C.A h.aF.sJ
theorem bB {q:Nat}:q∈C.foot F↔q=C.mb\/q∈C.s.blocks\/q∈F\/C.v.ownBlock=some q:=by
 unfold iW.foot;simp[eq_comm]
theorem aD.fC (h:aD W0 E H C w0 G0 w F st):∀q∈C.foot F,q<w.heap.size:=by
 intro q hq;have hl:=h.aF.fC h.hp;rcases bB.1 hq with rfl|h1|h1|h1
 ·exact h.aF.met.lt
 ·exact hl q (by simp[h1])
 ·exact hl q (by simp[h1])
 ·exact(h.row.lt q h1).2
theorem aD.aa5 (h:aD W0 E H C w0 G0 w F st):∀q∈C.foot F,W0.heap.size<=q:=by
 intro q hq;rcases bB.1 hq with rfl|h1|h1|h1
 ·exact h.aF.sJ
 ·exact(h.aF.apart q h1).2.2
 ·exact(h.hp.lt h.aF.pool q h1).2
 ·exact(h.row.lt q h1).1
theorem aD.aep (h:aD W0 E H C w0 G0 w F st)(A':dI)(v':Value)(st':lX)(hm:Mod S w w')(hS:∀q∈S,q∈C.foot F)(aa6:eH w' C.sb C.qb C.rb C.jb (C.K:Int) st'.b A'.val st'.ids)(Vl:BD W0 C.mb H A' w' F' st'.a)(hmet:aN w' (cmp {C with A:=A',v:=v'} st') st'.x)(hrow:w'.ownsRow W0.heap.size 126 1 v' st'.a.Ns.length (kI A' st'.a.Ns.length))(hpos:1<=st'.a.Ns.length)(hF:∀q∈F',q∈F\/((q∈G0\/w0.heap.size<=q)/\q∉C.foot F))(hg:∀g,v'.ownBlock=some g->(C.v.ownBlock=some g\/w.heap.size<=g)/\(w.heap.size<=g->g∉F')):
  aD W0 E H {C with A:=A',v:=v'} w0 G0 w' F' st':=by
 have hl:=h.fC;have hbl:∀q∈C.s.blocks,q∈C.foot F:=λq hq=>bB.2 (.inr (.inl hq));refine⟨bH.start (P:=cmp {C with A:=A',v:=v'} st') (s:=({C with A:=A',v:=v'}:iW).s) aa6 Vl hmet (h.aF.env.mod hm (λq hq=>h.aa5 q (hS q hq))) (λq hq=> ?_) h.aF.sJ,hrow,λg hgg hq=> ?_,hpos,h.kk,h.mm,h.qN,λq hq=> ?_, ?_⟩
 ·have hq':q∈C.s.blocks:=hq;have ha:=h.aF.apart q hq';refine⟨λhqF=> ?_,ha.2⟩;rcases hF q hqF with h1|h1
  ·exact ha.1 h1
  ·exact h1.2 (hbl q hq')
 ·obtain⟨h1,h2⟩:=hg g hgg
  have hq':g=C.mb\/g∈C.s.blocks\/g∈F':=by
   rcases zt.1 hq with h3|h3
   ·exact .inl h3
   ·exact .inr (Zs.1 h3)
  have hml:=h.aF.met.lt;have hml':C.mb<w.heap.size:=hml;rcases h1 with h1|h1
  ·have hr:=h.BF g h1;simp only[zt,Zs,not_or]at hr;rcases hq' with h3|h3|h3
   ·exact hr.1 h3
   ·exact hr.2.1 h3
   ·rcases hF g h3 with h4|h4
    ·exact hr.2.2 h4
    ·exact h4.2 (bB.2 (.inr (.inr (.inr h1))))
  ·rcases hq' with h3|h3|h3
   ·omega
   ·have:=hl g (hbl g h3);omega
   ·exact h2 h1 h3
 ·have hz:=h.mod.size;rcases bB.1 hq with h1|h1|h1|h1
  ·exact h.sub q (bB.2 (.inl h1))
  ·exact h.sub q (bB.2 (.inr (.inl h1)))
  ·rcases hF q h1 with h2|h2
   ·exact h.sub q (bB.2 (.inr (.inr (.inl h2))))
   ·exact h2.1
  ·rcases(hg q h1).1 with h2|h2
   ·exact h.sub q (bB.2 (.inr (.inr (.inr h2))))
   ·right;omega
 ·exact h.mod.trans hm (λ_ hh _=>hh) (λq hq hlt=>by
   rcases h.sub q (hS q hq)with h1|h1
   ·exact h1
   ·omega)
theorem aD.upd (h:aD W0 E H C w0 G0 w F st)(A':dI)(v':Value)(st':lX)(hm:Mod S w w')(hS:∀q∈S,q∈C.foot F)(aa6:eH w' C.sb C.qb C.rb C.jb (C.K:Int) st'.b A'.val st'.ids)(Vl:BD W0 C.mb H A' w' F' st'.a)(hmet:aN w' (cmp {C with A:=A',v:=v'} st') st'.x)(hrow:w'.ownsRow W0.heap.size 126 1 v' st'.a.Ns.length (kI A' st'.a.Ns.length))(hpos:1<=st'.a.Ns.length)(hF:∀q∈F',q∈F\/w.heap.size<=q)(hg:∀g,v'.ownBlock=some g->(C.v.ownBlock=some g\/w.heap.size<=g)/\(w.heap.size<=g->g∉F')):
  aD W0 E H {C with A:=A',v:=v'} w0 G0 w' F' st':=
 h.aep A' v' st' hm hS aa6 Vl hmet hrow hpos (λq hq=>(hF q hq).imp (λhh=>hh) (λhh=>⟨.inr (qf h.mod.size hh),λhf=>by have:=h.fC q hf;omega⟩)) hg
theorem mZ (h:aD W0 E H C w0 G0 w F st)(hm:Mod S w w')(hS:∀q∈S,q=C.mb\/q∈C.s.blocks\/q∈F):w'.ownsRow W0.heap.size 126 1 C.v st.a.Ns.length (kI C.A st.a.Ns.length):=
 kG h.row hm (λk hk JM=>h.BF k hk (by
  show k∈C.mb::(C.s.blocks++F)
  rcases hS k JM with h1|h1|h1<;>simp[h1]))
theorem zl (h:aD W0 E H C w0 G0 w F st):∀g,C.v.ownBlock=some g->(C.v.ownBlock=some g\/w.heap.size<=g)/\(w.heap.size<=g->g∉F):=λg hg=>⟨.inl hg,λhh=>by have:=(h.row.lt g hg).2;omega⟩
theorem aD.below (h:aD W0 E H C w0 G0 w F st)(hb:Below w.heap.size w w'):aD W0 E H C w0 G0 w' F st:=
 h.upd C.A C.v st (S:=[]) (Mod.of_below hb []) (by simp) (h.aF.aF.mod (Mod.of_below hb []) (by simp)) (h.hp.Av h.aF.pool (Mod.of_below hb []) (by simp)) (h.aF.met.below hb) (mZ h (Mod.of_below hb []) (by simp)) h.pos (λ_ hq=> .inl hq) (zl h)
theorem aD.met (h:aD W0 E H C w0 G0 w F st)(hM:aN w' (cmp C st) x')(hm:Mod [C.mb] w w'):aD W0 E H C w0 G0 w' F {st with x:=x'}:=
 h.upd C.A C.v {st with x:=x'} hm (λq hq=>bB.2 (.inl (by simpa using hq))) (h.aF.aF.mod hm (λq hq dS=>(h.aF.apart q hq).2.1 (zj.1 dS))) (h.hp.Av h.aF.pool hm (λq hq dS=>h.hp.mb h.aF.pool (by show C.mb∈F;rw[<-zj.1 dS];exact hq))) hM (mZ (st:=st) h hm (λq hq=> .inl (zj.1 hq))) h.pos (λ_ hq=> .inl hq) (zl h)
theorem aD.X3 (h:aD W0 E H C w0 G0 w F st)(n:Nat):aD W0 E H C w0 G0 (w.setCell ⟨C.mb,15,none⟩ (nI n)) F {st with len:=n}:=by
 have hm:Mod [C.mb] w (w.setCell ⟨C.mb,15,none⟩ (nI n)):=(Mod.refl _ w).ak (.inl (by simp)) _ _;refine h.upd C.A C.v {st with len:=n} hm (λq hq=>bB.2 (.inl (by simpa using hq))) (h.aF.aF.mod hm (λq hq dS=>(h.aF.apart q hq).2.1 (zj.1 dS))) (h.hp.Av h.aF.pool hm (λq hq dS=>h.hp.mb h.aF.pool (by show C.mb∈F;rw[<-zj.1 dS];exact hq))) ⟨rfl, ?_⟩ (mZ (st:=st) h hm (λq hq=> .inl (zj.1 hq))) h.pos (λ_ hq=> .inl hq) (zl h)
 exact Met.blk h.aF.met|>.ak 15 _
theorem aD.cells (h:aD W0 E H C w0 G0 w F st):w.cell? ⟨C.mb,0,none⟩=some (nI C.K)/\w.cell? ⟨C.mb,1,none⟩=some (nI C.M)/\w.cell? ⟨C.mb,11,none⟩=some C.v/\w.cell? ⟨C.mb,12,none⟩=some (pQ C.A.db)/\w.cell? ⟨C.mb,13,none⟩=some (mI C.A st.a.cop)/\w.cell? ⟨C.mb,14,none⟩=some (pQ C.sb)/\w.cell? ⟨C.mb,15,none⟩=some (nI st.len):=
 ⟨(Met.blk h.aF.met).cell 0,(Met.blk h.aF.met).cell 1,(Met.blk h.aF.met).cell 11,(Met.blk h.aF.met).cell 12,(Met.blk h.aF.met).cell 13,(Met.blk h.aF.met).cell 14,(Met.blk h.aF.met).cell 15⟩
theorem aD.frozen (h:aD W0 E H C w0 G0 w F st)(i:Nat):w.frozen? ⟨C.mb,i,none⟩=false:=(Met.blk h.aF.met).frozen i
theorem aD.rowAt (h:aD W0 E H C w0 G0 w F st):∃vb cap,C.v= .slice (some ⟨vb,0,none⟩) st.a.Ns.length cap/\∀id,id<st.a.Ns.length->w.cell? ⟨vb,id,none⟩=some (.pointer (some ⟨C.A.nb id,0,none⟩)):=by
 have hr:=h.row;obtain⟨A,c,hv⟩:=bq hr;rw[hv]at hr;obtain⟨rb,rfl,_,hra,_⟩:=fO.jy hr (by have:=h.pos;omega);exact⟨rb,c,hv,λid hid=>hra.at_ id _ (by simp[hid])⟩
theorem aD.node (h:aD W0 E H C w0 G0 w F st){id:Nat}{N:Nd}(hN:st.a.Ns[id]?=some N):∃Fi,bM w (C.A.nb id) Fi N/\dY H N/\C.mb∉Fi/\(∀q∈Fi,W0.heap.size<=q)/\(∀q∈Fi,q∈F)/\
  ∀(w':World) (F' S:List Nat) (N':Nd) (x':bS),bM w' (C.A.nb id) F' N'->dY H N'->(∀q∈F',q∈Fi\/w.heap.size<=q)->aN w' (cmp C st) x'->Mod S w w'->(∀q∈S,q=C.mb\/q∈Fi)->∃F2,aD W0 E H C w0 G0 w' F2 {st with a:={st.a with Ns:=st.a.Ns.set id N'},x:=x'}:=by
 obtain⟨Fs,hF,hp⟩:=h.aF.pool;obtain⟨hA,hO⟩:=hp.lW id N hN;have hid:=bJ hN;have hin:∀q∈Fs id,q∈F:=λq hq=>hF▸aR.2 (.inl ⟨id,hid,hq⟩);refine⟨Fs id,hA,hO,λhq=>hp.mb (aR.2 (.inl ⟨id,hid,hq⟩)),λq hq=>hp.low q (aR.2 (.inl ⟨id,hid,hq⟩)),hin,λw' F' S N' x' hA' hO' hF' hM hm hS=> ?_⟩;have hP:=hp.node hN hA' hO' hF' hm hS h.aF.env.size h.aF.met.lt;have hS':∀q∈S,q=C.mb\/q∈C.s.blocks\/q∈F:=λq hq=>(hS q hq).imp (λhh=>hh) (λhh=> .inr (hin q hh));have hlen:(st.a.Ns.set id N').length=st.a.Ns.length:=qq;refine⟨_,h.upd C.A C.v {st with a:={st.a with Ns:=st.a.Ns.set id N'},x:=x'} hm (λq hq=> ?_) (h.aF.aF.mod hm (λq hq dS=> ?_)) ⟨_,rfl,hP⟩ hM ?_ ?_ (λq hq=> ?_) (λg hg=>⟨.inl hg,λhh=>by have:=(h.row.lt g hg).2;omega⟩)⟩
 ·rcases hS' q hq with h1|h1|h1
  ·exact bB.2 (.inl h1)
  ·exact bB.2 (.inr (.inl h1))
  ·exact bB.2 (.inr (.inr (.inl h1)))
 ·have ha:=h.aF.apart q hq;rcases hS q dS with h1|h1
  ·exact ha.2.1 h1
  ·exact ha.1 (hin q h1)
 ·show w'.ownsRow W0.heap.size 126 1 C.v (st.a.Ns.set id N').length (kI C.A (st.a.Ns.set id N').length);rw[hlen];exact mZ h hm hS'
 ·show 1<=(st.a.Ns.set id N').length;rw[hlen];exact h.pos
 ·rcases aR.1 hq with⟨i,hi,hq2⟩|hq2
  ·have hi':i<st.a.Ns.length:=by simpa using hi
   by_cases e1:i=id
   ·simp only[if_pos e1]at hq2;rcases hF' q hq2 with h6|h6
    ·exact .inl (hin q h6)
    ·exact .inr h6
   ·simp only[if_neg e1]at hq2;exact .inl (hF▸aR.2 (.inl ⟨i,hi',hq2⟩))
  ·exact .inl (hF▸aR.2 (.inr hq2))
theorem aD.again (h:aD W0 E H C w0 G0 w F st):aD W0 E H C w (C.foot F) w F st:=⟨h.aF,h.row,h.BF,h.pos,h.kk,h.mm,h.aF.env.size,λ_ hq=> .inl hq,Mod.refl _ _⟩
theorem aD.chain {C':iW}{st':lX}(h:aD W0 E H C w0 G0 w F st)(k:aD W0 E H C' w (C.foot F) w' F' st'):aD W0 E H C' w0 G0 w' F' st':=
 ⟨k.aF,k.row,k.BF,k.pos,k.kk,k.mm,h.qN,λq hq=>by
  have hz:=h.mod.size;rcases k.sub q hq with h1|h1
  ·exact h.sub q h1
  ·right;omega,h.mod.trans k.mod (λ_ hh _=>hh) (λq hq hl=>by
   rcases h.sub q hq with h1|h1
   ·exact h1
   ·omega)⟩
theorem aD.served (h:aD W0 E H C w0 G0 w F st){b':Int}{aL:List Nat}{a':Pool}(hs:bH W0 E (cmp C st) (BD W0 C.mb H C.A) C.s w F w' b' aL a' F' x')(hlen:a'.Ns.length=st.a.Ns.length)(Ib:a'.cop.isSome=st.a.cop.isSome):aD W0 E H C w0 G0 w' F' {st with a:=a',ids:=aL,b:=b',x:=x'}:=by
 have hm:=hs.mod;have hm':Mod (C.mb::(C.s.blocks++F)) w w':=hm;refine h.upd C.A C.v {st with a:=a',ids:=aL,b:=b',x:=x'} hm' (λq hq=> ?_) hs.aF hs.pool ?_ ?_ (by show 1<=a'.Ns.length;rw[hlen];exact h.pos) hs.sub (λg hg=>⟨.inl hg,λhh=>by have:=(h.row.lt g hg).2;omega⟩)
 ·simp only[zt,Zs]at hq;rcases hq with h1|h1|h1
  ·exact bB.2 (.inl h1)
  ·exact bB.2 (.inr (.inl h1))
  ·exact bB.2 (.inr (.inr (.inl h1)))
 ·have:=hs.met
  have hc:cmp C {st with a:=a',ids:=aL,b:=b',x:=x'}=cmp C st:=by unfold cmp mI;simp only;rw[Ib]
  show aN w' (cmp C {st with a:=a',ids:=aL,b:=b',x:=x'}) x';rw[hc];exact this
 ·show w'.ownsRow W0.heap.size 126 1 C.v a'.Ns.length (kI C.A a'.Ns.length);rw[hlen];exact mZ h hm' (λq hq=>by simpa[zt,Zs]using hq)
end
end
