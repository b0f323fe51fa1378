/- The pool of a core's jobs: its nodes, its directory, its copyist. -/
import Derived.Test.YtnfjjbpmhcbelaaGreatDoorCoBV
import Derived.Test.YtnfjjbpmhcbelaaGreatDoorCoBW
import Derived.Test.YtnfjjbpmhcbelaaGreatDoorCoBM
import Derived.Test.YtnfjjbpmhcbelaaGreatDoorGaugeA
namespace Go.Proofs.YtnfjjbpmhcbelaaGreatDoor
set_option maxHeartbeats 1000000
open Go.RowKit dI
section
structure Pool where
 Ns:List Nd
 d:Nat
 l:List Nat
 cop:Option (Nat×List Nat)
structure dA where
 nb:Nat→Nat
 db:Nat
 eb:Nat
 cb:Nat
 fb:Nat
 fe:Nat
def dA.dY (A:dA)(c:Option (Nat×List Nat)):List Nat:=A.db::A.eb::(if c.isSome then [A.cb,A.fb,A.fe]else [])
def dA.jt (_:dA)(id:Nat):TypeId:=if id=32 then 145 else 135
def dA.ja (A:dA)(id:Nat):Addr:=⟨if id=32 then A.cb else A.nb id,0,none⟩
def gV (A:dA)(Fs:Nat→List Nat)(a:Pool):List Nat:=(List.range a.Ns.length).flatMap Fs++A.dY a.cop
theorem aS {A:dA}{Fs:Nat→List Nat}{a:Pool}{q:Nat}:q∈gV A Fs a↔(∃i,i<a.Ns.length∧q∈Fs i)∨q∈A.dY a.cop:=by
 unfold gV;rw[List.mem_append,List.mem_flatMap];simp[List.mem_range]
structure iV (W0:World)(mb:Nat)(H:Nat→Nat)(A:dA)(w:World)(Fs:Nat→List Nat)(a:Pool):Prop where
 lF:∀(i:Nat) (N:Nd),a.Ns[i]?=some N→bJ w (A.nb i) (Fs i) N∧dU H N
 dir:dz w A.db A.eb a.d a.l
 cop:∀(next:Nat) (lf:List Nat),a.cop=some (next,lf)→jk w A.cb A.db A.eb A.fb A.fe a.d next a.l lf
 sep:∀i j,i<a.Ns.length→j<a.Ns.length→i≠j→∀q∈Fs i,q∉Fs j
 wE:∀i,i<a.Ns.length→∀q∈Fs i,q∉A.dY a.cop
 low:∀q∈gV A Fs a,W0.heap.size≤q
 mb:mb∉gV A Fs a
 yB:a.Ns.length≤32
def Ay (W0:World)(mb:Nat)(H:Nat→Nat)(A:dA)(w:World)(F:List Nat)(a:Pool):Prop:=∃Fs,F=gV A Fs a∧iV W0 mb H A w Fs a
def Pool.can (a:Pool)(id:Nat):Prop:=(∃N,a.Ns[id]?=some N∧N.ph.busy=true)∨(a.Ns[id]?=none∧id=32∧∃c,a.cop=some c)
def Pool.left (a:Pool)(id:Nat):Nat:=match a.Ns[id]? with
 |some N=>N.left
 |none=>match a.cop with
  |some c=>if id=32 then a.l.length-c.1 else 0
  |none=>0
def Pool.step (H:Nat→Nat)(a:Pool)(id:Nat)(a':Pool):Prop:=
 (∃N,a.Ns[id]?=some N∧N.ph.busy=true∧1≤N.left∧dU H N∧a'={a with Ns:=a.Ns.set id N.step})∨
 (a.Ns[id]?=none∧id=32∧∃c,a.cop=some c∧c.1<a.l.length∧a'={a with cop:=some (c.1+1,uM c.2 c.1 (a.l.getD c.1 0) 2)})
section
variable {W0 w w' : World} {mb : Nat} {H : Nat → Nat} {A : dA} {Fs : Nat → List Nat} {F : List Nat} {a : Pool}
theorem bG {α:Type}{l:List α}{i:Nat}{x:α}(h:l[i]?=some x):i<l.length:=(List.getElem?_eq_some_iff.1 h).1
theorem iV.gI (h:iV W0 mb H A w Fs a):∀q∈gV A Fs a,q<w.heap.size:=by
 intro q hq;rcases aS.1 hq with⟨i,hi,hq⟩|hq
 ·exact(h.lF i _ (List.getElem?_eq_getElem hi)).1.gI q hq
 ·unfold dA.dY at hq;simp only[List.mem_cons]at hq;rcases hq with rfl|rfl|hq
  ·exact h.dir.lt
  ·exact h.dir.K3
  ·cases hc:a.cop with
   |none=>rw[hc]at hq;simp at hq
   |some c=>
    have:=h.cop c.1 c.2 hc;rw[hc]at hq;simp at hq;rcases hq with rfl|rfl|rfl
    ·exact this.blk.lt
    ·exact this.fresh.lt
    ·exact this.fresh.K3
theorem iV.mod {S:List Nat}(h:iV W0 mb H A w Fs a)(hm:Mod S w w')(hS:∀q∈gV A Fs a,q∉S):iV W0 mb H A w' Fs a:=
 ⟨fun i N hN=>⟨(h.lF i N hN).1.mod hm (fun q hq=>hS q (aS.2 (.inl ⟨i,bG hN,hq⟩))),(h.lF i N hN).2⟩,
  h.dir.mod hm (hS _ (aS.2 (.inr (by simp[dA.dY])))) (hS _ (aS.2 (.inr (by simp[dA.dY])))),
  fun next lf hc=>(h.cop next lf hc).mod hm (fun q hq=>hS q (aS.2 (.inr (by unfold dA.dY;rw[hc];simp at hq⊢;omega)))),
  h.sep,h.wE,h.low,h.mb,h.yB⟩
theorem iV.node (h:iV W0 mb H A w Fs a){id:Nat}{N N':Nd}{F' S:List Nat}(hN:a.Ns[id]?=some N)(hA:bJ w' (A.nb id) F' N')(hO:dU H N')(hF:∀q∈F',q∈Fs id∨w.heap.size≤q)(hm:Mod S w w')(hS:∀q∈S,q=mb∨q∈Fs id)(h0:W0.heap.size≤w.heap.size)(hmb:mb<w.heap.size):
  iV W0 mb H A w' (fun i=>if i=id then F' else Fs i) {a with Ns:=a.Ns.set id N'}:=by
 have hid:=bG hN;have hlts:=h.gI
 have hset:∀(i:Nat) (X:Nd),(a.Ns.set id N')[i]?=some X→(i=id∧X=N')∨(i≠id∧a.Ns[i]?=some X):=fun i X hX=>by
  rw[List.getElem?_set]at hX;by_cases hi:id=i
  ·rw[if_pos hi,if_pos hid]at hX;cases hX;exact .inl ⟨hi.symm,rfl⟩
  ·rw[if_neg hi]at hX;exact .inr ⟨fun e=>hi e.symm,hX⟩
 have hin:∀q,q∈gV A (fun i=>if i=id then F' else Fs i) {a with Ns:=a.Ns.set id N'}→q∈gV A Fs a∨w.heap.size≤q:=fun q hq=>by
  rcases aS.1 hq with⟨i,hi,hq⟩|hq
  ·simp only[List.length_set]at hi;by_cases e:i=id
   ·simp only[if_pos e]at hq;rcases hF q hq with h1|h1
    ·exact .inl (aS.2 (.inl ⟨id,hid,h1⟩))
    ·exact .inr h1
   ·simp only[if_neg e]at hq;exact .inl (aS.2 (.inl ⟨i,hi,hq⟩))
  ·exact .inl (aS.2 (.inr hq))
 have hkeep:∀i,i<a.Ns.length→i≠id→∀q∈Fs i,q∉S:=fun i hi he q hq dK=>by
  rcases hS q dK with rfl|h1
  ·exact h.mb (aS.2 (.inl ⟨i,hi,hq⟩))
  ·exact h.sep i id hi hid he q hq h1
 have hkd:∀q∈A.dY a.cop,q∉S:=fun q hq dK=>by
  rcases hS q dK with rfl|h1
  ·exact h.mb (aS.2 (.inr hq))
  ·exact h.wE id hid q h1 hq
 refine⟨fun i X hX=> ?_,h.dir.mod hm (hkd _ (by simp[dA.dY])) (hkd _ (by simp[dA.dY])),fun next lf hc=>(h.cop next lf hc).mod hm (fun q hq=>hkd q (by have hc':a.cop=some (next,lf):=hc;unfold dA.dY;rw[hc'];simp at hq⊢;omega)),fun i j hi hj hij q hq hq2=> ?_,fun i hi q hq hq2=> ?_,fun q hq=> ?_,fun hq=> ?_,by simpa using h.yB⟩
 ·rcases hset i X hX with⟨rfl,rfl⟩|⟨h1,h2⟩
  ·simp only[if_pos];exact⟨hA,hO⟩
  ·simp only[if_neg h1];exact⟨(h.lF i X h2).1.mod hm (hkeep i (bG h2) h1),(h.lF i X h2).2⟩
 ·simp only[List.length_set]at hi hj
  by_cases e1:i=id<;>by_cases e2:j=id
  ·exact hij (e1.trans e2.symm)
  ·simp only[if_pos e1]at hq;simp only[if_neg e2]at hq2;rcases hF q hq with h1|h1
   ·exact h.sep j id hj hid e2 q hq2 h1
   ·have:=hlts q (aS.2 (.inl ⟨j,hj,hq2⟩));omega
  ·simp only[if_neg e1]at hq;simp only[if_pos e2]at hq2;rcases hF q hq2 with h1|h1
   ·exact h.sep i id hi hid e1 q hq h1
   ·have:=hlts q (aS.2 (.inl ⟨i,hi,hq⟩));omega
  ·simp only[if_neg e1]at hq;simp only[if_neg e2]at hq2;exact h.sep i j hi hj hij q hq hq2
 ·simp only[List.length_set]at hi;by_cases e1:i=id
  ·simp only[if_pos e1]at hq;rcases hF q hq with h1|h1
   ·exact h.wE id hid q h1 hq2
   ·have:=hlts q (aS.2 (.inr hq2));omega
  ·simp only[if_neg e1]at hq;exact h.wE i hi q hq hq2
 ·rcases hin q hq with h1|h1
  ·exact h.low q h1
  ·omega
 ·rcases hin mb hq with h1|h1
  ·exact h.mb h1
  ·omega
theorem iV.copied (h:iV W0 mb H A w Fs a){c c':Nat×List Nat}{S:List Nat}(hc:a.cop=some c)(hC:jk w' A.cb A.db A.eb A.fb A.fe a.d c'.1 a.l c'.2)(hm:Mod S w w')(hS:∀q∈S,q=mb∨q∈A.dY a.cop):
  iV W0 mb H A w' Fs {a with cop:=some c'}∧gV A Fs {a with cop:=some c'}=gV A Fs a:=by
 have hd:A.dY (some c')=A.dY a.cop:=by rw[hc];rfl
 have hf:gV A Fs {a with cop:=some c'}=gV A Fs a:=by unfold gV;rw[←hd]
 refine⟨⟨fun i N hN=>⟨(h.lF i N hN).1.mod hm (fun q hq dK=> ?_),(h.lF i N hN).2⟩,hC.old,fun next lf hcc=> ?_,h.sep,fun i hi q hq=>by show q∉A.dY (some c');rw[hd];exact h.wE i hi q hq,fun q hq=>h.low q (hf▸hq),fun hq=>h.mb (hf▸hq),h.yB⟩,hf⟩
 ·have hi:=bG hN;rcases hS q dK with rfl|h1
  ·exact h.mb (aS.2 (.inl ⟨i,hi,hq⟩))
  ·exact h.wE i hi q hq h1
 ·have:c'=(next,lf):=Option.some.inj hcc;rw[this]at hC;exact hC
end
theorem acD (A:dA)(id:Nat):zJ (A.jt id):=by
 unfold dA.jt zJ;split
 ·exact .inr rfl
 ·exact .inl rfl
theorem OU {A:dA}{id:Nat}(h:id≠32):jy (A.jt id)=299 ∧xu (A.jt id)=300 ∧A.ja id=⟨A.nb id,0,none⟩:=by
 unfold dA.jt dA.ja;rw[if_neg h,if_neg h];exact⟨rfl,rfl,rfl⟩
theorem Ri (A:dA):jy (A.jt 32)=232 ∧xu (A.jt 32)=318 ∧A.ja 32=⟨A.cb,0,none⟩:=by
 unfold dA.jt dA.ja;rw[if_pos rfl,if_pos rfl];exact⟨by kernel_rfl,by kernel_rfl,rfl⟩
theorem Ev {W0:World}{E:Nat→Addr}{P:MP}{H:Nat→Nat}(A:dA)(hb0:W0.heap.size≤P.mb):iO W0 E P A.jt A.ja (Ay W0 P.mb H A) Pool.can Pool.left (Pool.step H) where
 OC:=fun _=>acD A _
 lt:=fun⟨Fs,hF,h⟩ q hq=>⟨h.gI q (hF▸hq),h.low q (hF▸hq)⟩
 mb:=fun⟨Fs,hF,h⟩ hq=>h.mb (hF▸hq)
 zK:=fun⟨Fs,hF,h⟩ hm hS=>⟨Fs,hF,h.mod hm (fun q hq=>hS q (hF▸hq))⟩
 le:=fun{V F a id} ⟨Fs,hF,h⟩ hc=>by
  unfold Pool.left;rcases hc with⟨N,hN,hb⟩|⟨hN,rfl,c,hc⟩
  ·rw[hN];obtain⟨_,ho⟩:=h.lF id N hN;have h1:=ho.pw.le;have dx:=ho.ph;unfold lU at dx;show N.left≤1000;unfold Nd.left
   cases hp:N.ph with
   |idle=>simp
   |nW k=>
    rw[hp]at dx;obtain⟨k1,k2,k3,k4,_⟩:=iZ ho.pw dx.1;simp only;omega
   |iY Ts next=>simp only;omega
  ·rw[hN,hc];have:=h.dir.small;show(if 32=32 then a.l.length-c.1 else 0)≤1000;rw[if_pos rfl];omega
 wS:=fun{V F a id} ⟨Fs,hF,h⟩ hc=>by
  rcases hc with⟨N,hN,hb⟩|⟨hN,rfl,c,hc⟩
  ·have hi:=bG hN;have:=h.yB;obtain⟨j1,j2,j3⟩:=OU (A:=A) (id:=id) (by omega);obtain⟨hA,ho⟩:=h.lF id N hN
   have hl:a.left id=N.left:=by unfold Pool.left;rw[hN]
   rw[j1,j3,hl];exact abt hA ho
  ·obtain⟨j1,j2,j3⟩:=Ri A
   have hl:a.left 32=a.l.length-c.1:=by unfold Pool.left;rw[hN,hc];rfl
   rw[j1,j3,hl];exact(yj A.cb A.db A.eb A.fb A.fe a.d c.1 a.l c.2 V (h.cop c.1 c.2 hc)).mono fun e w' ⟨h1,h2⟩=>⟨h1,h2▸(Below.refl _ _).drew⟩
 aaz:=fun{V F a id x} ⟨Fs,hF,h⟩ hc hl hE hM=>by
  have hml:=hM.lt;rcases hc with⟨N,hN,hb⟩|⟨hN,rfl,c,hc⟩
  ·have hi:=bG hN;have:=h.yB;obtain⟨j1,j2,j3⟩:=OU (A:=A) (id:=id) (by omega);obtain⟨hA,ho⟩:=h.lF id N hN
   have hl':a.left id=N.left:=by unfold Pool.left;rw[hN]
   rw[hl']at hl;rw[j2,j3];refine(abu hA ho hl hM hE hb0 (fun hq=>h.mb (aS.2 (.inl ⟨id,hi,hq⟩))) (fun q hq=>h.low q (aS.2 (.inl ⟨id,hi,hq⟩)))).mono ?_;rintro e V' ⟨rfl,F',x',h1,h2,h3,h4,h5⟩
   have hP:=h.node hN h1 (step_ok ho hl) h2 h5 (fun q hq=>by
    rcases List.mem_cons.1 hq with h6|h6
    ·exact .inl h6
    ·exact .inr h6) hE.size hml
   refine⟨rfl,_,_,x',.inl ⟨N,hN,hb,hl,ho,rfl⟩,⟨_,rfl,hP⟩,fun q hq=> ?_,h3,h4,h5.more (fun q hq=> ?_)⟩
   ·rw[hF];rcases aS.1 hq with⟨i,hi2,hq2⟩|hq2
    ·simp only[List.length_set]at hi2;by_cases e1:i=id
     ·simp only[if_pos e1]at hq2;rcases h2 q hq2 with h6|h6
      ·exact .inl (aS.2 (.inl ⟨id,hi,h6⟩))
      ·exact .inr h6
     ·simp only[if_neg e1]at hq2;exact .inl (aS.2 (.inl ⟨i,hi2,hq2⟩))
    ·exact .inl (aS.2 (.inr hq2))
   ·rcases List.mem_cons.1 hq with h6|h6
    ·simp[h6]
    ·exact List.mem_cons_of_mem _ (hF▸aS.2 (.inl ⟨id,hi,h6⟩))
  ·obtain⟨j1,j2,j3⟩:=Ri A
   have hl':a.left 32=a.l.length-c.1:=by unfold Pool.left;rw[hN,hc];rfl
   rw[hl']at hl;rw[j2,j3]
   have hdF:∀q∈[A.cb,A.db,A.eb,A.fb,A.fe],q∈A.dY a.cop:=fun q hq=>by
    unfold dA.dY;rw[hc];simp at hq⊢;omega
   refine(Oo A.cb A.db A.eb A.fb A.fe a.d c.1 a.l c.2 P x (by omega) V (h.cop c.1 c.2 hc) hM (fun hq=>h.mb (aS.2 (.inr (hdF _ hq))))).mono ?_;rintro e V' ⟨rfl,h1,h2,h3⟩
   have hS:∀q∈[P.mb,A.cb,A.fe],q=P.mb∨q∈A.dY a.cop:=fun q hq=>by
    simp at hq;rcases hq with rfl|rfl|rfl
    ·exact .inl rfl
    ·exact .inr (hdF _ (by simp))
    ·exact .inr (hdF _ (by simp))
   obtain⟨hP,hPf⟩:=h.copied (c':=(c.1+1,uM c.2 c.1 (a.l.getD c.1 0) 2)) hc h1 h3 hS;refine⟨rfl,_,_,_,.inr ⟨hN,rfl,c,hc,by omega,rfl⟩,⟨Fs,rfl,hP⟩,fun q hq=> .inl (by rw[hF,←hPf];exact hq),h2,tH x 1,h3.more (fun q hq=> ?_)⟩;rcases hS q hq with h6|h6
   ·simp[h6]
   ·exact List.mem_cons_of_mem _ (hF▸aS.2 (.inr h6))
 jg:=fun{a id a' j} hs hc=>by
  rcases hs with⟨N,hN,hb,_,_,rfl⟩|⟨hN,hid,c,hc',_,rfl⟩
  ·rcases hc with⟨M,hM,hb2⟩|⟨hM,rfl,c,hc⟩
   ·left;by_cases e:id=j
    ·subst e;exact⟨N.step,by simp[bG hN],by rw[(rW N).busy];exact hb⟩
    ·exact⟨M,by simp[e,hM],hb2⟩
   ·right;refine⟨?_,rfl,c,hc⟩;simp at hM⊢;omega
  ·rcases hc with⟨M,hM,hb2⟩|⟨hM,rfl,c2,hc⟩
   ·exact .inl ⟨M,hM,hb2⟩
   ·exact .inr ⟨hM,rfl,_,rfl⟩
 Lc:=fun{a id a' j} hs hne=>by
  unfold Pool.left;rcases hs with⟨N,hN,hb,_,_,rfl⟩|⟨hN,hid,c,hc',_,rfl⟩
  ·simp only;rw[List.getElem?_set,if_neg (fun e=>hne e.symm)]
  ·simp only
   cases hj:a.Ns[j]? with
   |some N=>rfl
   |none=>
    rw[hc'];show(if j=32 then _ else 0)=(if j=32 then _ else 0);rw[if_neg (by omega),if_neg (by omega)]
 DK:=fun{a id a'} hs=>by
  unfold Pool.left;rcases hs with⟨N,hN,hb,hl,ho,rfl⟩|⟨hN,rfl,c,hc',hl,rfl⟩
  ·simp only;rw[List.getElem?_set,if_pos rfl,if_pos (bG hN),hN];exact VR ho hl
  ·simp only;rw[hN,hc'];show(if 32=32 then a.l.length-(c.1+1)else 0)+1=(if 32=32 then a.l.length-c.1 else 0);rw[if_pos rfl,if_pos rfl];omega
end
section
variable {hash id p : Nat} {N : Nd}
structure eF (a:Pool):Prop where
 fit:∀(i:Nat) (N:Nd),a.Ns[i]?=some N→N.au≤a.d∧N.pfx<2^N.au
 Rj:∀j,j<2^a.d→∃N,a.Ns[a.l.getD j 0]?=some N∧j/2^(a.d-N.au)=N.pfx
 from_:∀(i:Nat) (N:Nd) (j:Nat),a.Ns[i]?=some N→j<2^a.d→j/2^(a.d-N.au)=N.pfx→a.l.getD j 0=i
 len:a.l.length=2^a.d
 split:∀(i:Nat) (N:Nd),a.Ns[i]?=some N→N.ph.busy=true→N.kind=3→N.au<a.d
 cop:∀c,a.cop=some c→c.2.length=2^(a.d+1)∧c.1≤a.l.length∧∀j,j<2*c.1→c.2.getD j 0=a.l.getD (j/2) 0
theorem pos2 (e:Nat):0<2^e:=Nat.pow_pos (by decide)
theorem vV {j e:Nat}:j/2^e=p↔p*2^e≤j∧j<p*2^e+2^e:=by
 have hp:=pos2 e;generalize 2^e=m at*;constructor
 ·rintro rfl;have h1:=Nat.div_add_mod j m;have h2:=Nat.mod_lt j hp;rw[Nat.mul_comm]at h1;omega
 ·rintro⟨h1,h2⟩;have h3:p≤j/m:=(Nat.le_div_iff_mul_le hp).2 h1;have h4:j/m<p+1:=(Nat.div_lt_iff_lt_mul hp).2 (by rw[Nat.succ_mul];exact h2);omega
theorem Rk {h d:Nat}(hd:p≤d)(hd5:d≤5):dQ h d/2^(d-p)=dQ h p:=by
 unfold dQ;rw[Nat.div_div_eq_div_mul,←Nat.pow_add];congr 2;omega
theorem eF.at_ {a:Pool}(h:eF a)(h64:hash<18446744073709551616)(h5:a.d≤5):∃N,a.Ns[a.l.getD (dQ hash a.d) 0]?=some N∧dQ hash N.au=N.pfx:=by
 obtain⟨N,h1,h2⟩:=h.Rj (dQ hash a.d) (Bc h64 (by omega));exact⟨N,h1,by rw[←h2,Rk (h.fit _ _ h1).1 h5]⟩
theorem eF.OV {a:Pool}(h:eF a){i:Nat}(h64:hash<18446744073709551616)(h5:a.d≤5)(hN:a.Ns[i]?=some N)(ht:dQ hash N.au=N.pfx):a.l.getD (dQ hash a.d) 0=i:=
 h.from_ i N _ hN (Bc h64 (by omega)) (by rw[Rk (h.fit _ _ hN).1 h5];exact ht)
theorem JN:∀(l l':List Nat),l.Nodup→(∀x∈l,x∈l')→l.length≤l'.length
 | [],_,_,_=>Nat.zero_le _
 |x::l,l',hn,hs=>by
  rw[List.nodup_cons]at hn;have hx:=hs x (by simp);have h1:=JN l (l'.erase x) hn.2 (fun y hy=>(List.mem_erase_of_ne (fun e=>hn.1 (by rw[←e];exact hy))).2 (hs y (by simp[hy])));rw[List.length_erase_of_mem hx]at h1;have:0<l'.length:=List.length_pos_of_mem hx;simp only[List.length_cons];omega
theorem eF.nodes {a:Pool}(h:eF a):a.Ns.length≤2^a.d:=by
 have:=JN (List.range a.Ns.length) ((List.range (2^a.d)).map fun j=>a.l.getD j 0) List.nodup_range (fun i hi=>by
  rw[List.mem_range]at hi;obtain⟨N,hN⟩:∃N,a.Ns[i]?=some N:=⟨_,List.getElem?_eq_getElem hi⟩;obtain⟨h1,h2⟩:=h.fit i N hN
  refine List.mem_map.2 ⟨N.pfx*2^(a.d-N.au),List.mem_range.2 ?_,h.from_ i N _ hN ?_ (Nat.mul_div_cancel _ (pos2 _))⟩<;>
  ·have h3:N.pfx*2^(a.d-N.au)<2^N.au*2^(a.d-N.au):=Nat.mul_lt_mul_of_pos_right h2 (pos2 _);rw[←Nat.pow_add,Nat.add_sub_cancel' h1]at h3
   exact h3)
 simpa using this
theorem Rl (l:List Nat)(fr id:Nat):∀j i,(jG l fr id j).getD i 0=if fr≤i∧i<fr+j∧i<l.length then id else l.getD i 0
 |0,i=>by unfold jG;rw[if_neg (by omega)]
 |j+1,i=>by
  unfold jG;have ih:=Rl l fr id j i;rw[List.getD_eq_getElem?_getD,List.getElem?_set];by_cases h1:fr+j=i
  ·rw[if_pos h1,lV];by_cases h2:fr+j<l.length
   ·rw[if_pos h2,if_pos (by omega)];rfl
   ·rw[if_neg h2,if_neg (by omega)];rw[List.getD_eq_getElem?_getD,List.getElem?_eq_none (by omega)]
  ·rw[if_neg h1,←List.getD_eq_getElem?_getD,ih];by_cases h3:fr≤i∧i<fr+j∧i<l.length
   ·rw[if_pos h3,if_pos (by omega)]
   ·rw[if_neg h3,if_neg (by omega)]
theorem Rm (lf:List Nat)(i id j:Nat)(hi:2*i+1<lf.length):(uM lf i id 2).getD j 0=if j/2=i then id else lf.getD j 0:=by
 show(((lf.set (2*i+0) id)).set (2*i+1) id).getD j 0=_;rw[List.getD_eq_getElem?_getD,List.getElem?_set,List.getElem?_set,List.length_set];by_cases h1:2*i+1=j
 ·rw[if_pos h1,if_pos hi,if_pos (by omega)];rfl
 ·rw[if_neg h1];by_cases h2:2*i+0=j
  ·rw[if_pos h2,if_pos (by omega),if_pos (by omega)];rfl
  ·rw[if_neg h2,if_neg (by omega),←List.getD_eq_getElem?_getD]
theorem Rn (lf lo:List Nat)(fr:Nat):∀c j,2*(fr+c)≤lf.length→(qz lf lo fr c).getD j 0=if fr≤j/2∧j/2<fr+c then lo.getD (j/2) 0 else lf.getD j 0
 |0,j,_=>by unfold qz;rw[if_neg (by omega)]
 |c+1,j,h=>by
  unfold qz;rw[Rm _ _ _ _ (by rw[zI];omega),Rn lf lo fr c j (by omega)];by_cases h1:j/2=fr+c
  ·rw[if_pos h1,if_pos (by omega),h1]
  ·rw[if_neg h1];by_cases h2:fr≤j/2∧j/2<fr+c
   ·rw[if_pos h2,if_pos (by omega)]
   ·rw[if_neg h2,if_neg (by omega)]
theorem eF.alike {a:Pool}(h:eF a){N':Nd}(hN:a.Ns[id]?=some N)(h1:N'.pfx=N.pfx)(h2:N'.au=N.au)(h3:N'.ph.busy=true→N'.kind=3→N.au<a.d):eF {a with Ns:=a.Ns.set id N'}:=by
 have hid:=bG hN
 have hset:∀(i:Nat) (X:Nd),(a.Ns.set id N')[i]?=some X→∃Y,a.Ns[i]?=some Y∧X.pfx=Y.pfx∧X.au=Y.au∧(X=Y∨X=N'∧Y=N):=fun i X hX=>by
  rw[List.getElem?_set]at hX;by_cases hi:id=i
  ·subst hi;rw[if_pos rfl,if_pos hid]at hX;cases hX;exact⟨N,hN,h1,h2,.inr ⟨rfl,rfl⟩⟩
  ·rw[if_neg hi]at hX;exact⟨X,hX,rfl,rfl,.inl rfl⟩
 have adF:∀(i:Nat) (Y:Nd),a.Ns[i]?=some Y→∃X,(a.Ns.set id N')[i]?=some X∧X.pfx=Y.pfx∧X.au=Y.au:=fun i Y hY=>by
  rw[List.getElem?_set];by_cases hi:id=i
  ·subst hi;rw[hN]at hY;cases hY;exact⟨N',by rw[if_pos rfl,if_pos hid],h1,h2⟩
  ·exact⟨Y,by rw[if_neg hi];exact hY,rfl,rfl⟩
 refine⟨fun i X hX=> ?_,fun j hj=> ?_,fun i X j hX hj hp=> ?_,h.len,fun i X hX hb hk=> ?_,h.cop⟩
 ·obtain⟨Y,g1,g2,g3,_⟩:=hset i X hX;rw[g2,g3];exact h.fit i Y g1
 ·obtain⟨Y,g1,g2⟩:=h.Rj j hj;obtain⟨X,g3,g4,g5⟩:=adF _ Y g1;exact⟨X,g3,by rw[g4,g5];exact g2⟩
 ·obtain⟨Y,g1,g2,g3,_⟩:=hset i X hX;rw[g2,g3]at hp;exact h.from_ i Y j g1 hj hp
 ·obtain⟨Y,g1,g2,g3,g4⟩:=hset i X hX;rcases g4 with rfl|⟨rfl,rfl⟩
  ·exact h.split i X g1 hb hk
  ·rw[g3];exact h3 hb hk
theorem eF.step {H:Nat→Nat}{a a':Pool}(h:eF a)(hs:a.step H id a'):eF a':=by
 rcases hs with⟨N,hN,hb,_,_,rfl⟩|⟨hN,rfl,c,hc,hl,rfl⟩
 ·have hL:=rW N;exact h.alike hN hL.pfx hL.au (fun _ hk=>h.split id N hN hb (by rw[←hL.kind];exact hk))
 ·refine⟨h.fit,h.Rj,h.from_,h.len,h.split,fun c' hc'=> ?_⟩;obtain⟨h1,h2,h3⟩:=h.cop c hc;have hc2:c'=(c.1+1,uM c.2 c.1 (a.l.getD c.1 0) 2):=(Option.some.inj hc').symm;rw[hc2];have hlen:=h.len;have hpw:2^(a.d+1)=2^a.d*2:=Nat.pow_succ ..;refine⟨by simp only;rw[uW];exact h1,by simp only;omega,fun j hj=> ?_⟩;simp only at hj⊢;rw[Rm _ _ _ _ (by omega)];by_cases hj2:j/2=c.1
  ·rw[if_pos hj2,hj2]
  ·rw[if_neg hj2];exact h3 j (by omega)
theorem eF.double {a:Pool}(h:eF a)(_:a.cop=none):eF {a with cop:=some (0,List.replicate (2^(a.d+1)) 0)}:=
 ⟨h.fit,h.Rj,h.from_,h.len,h.split,fun c hcc=>by
  have hc2:c=(0,List.replicate (2^(a.d+1)) 0):=(Option.some.inj hcc).symm;rw[hc2]
  exact⟨by simp,Nat.zero_le _,fun j hj=>by simp at hj⟩⟩
theorem eF.take {a:Pool}(h:eF a){c:Nat×List Nat}(hc:a.cop=some c)(hl:c.1=a.l.length):eF {a with d:=a.d+1,l:=c.2,cop:=none}:=by
 obtain⟨h1,h2,h3⟩:=h.cop c hc;have hlen:=h.len;have hpw:2^(a.d+1)=2^a.d*2:=Nat.pow_succ ..
 have hdv:∀j p,p≤a.d→j/2^(a.d+1-p)=j/2/2^(a.d-p):=fun j p hp=>by
  rw[Nat.div_div_eq_div_mul,show a.d+1-p=(a.d-p)+1 by omega,Nat.pow_succ,Nat.mul_comm]
 refine⟨fun i N hN=>⟨Nat.le_succ_of_le (h.fit i N hN).1,(h.fit i N hN).2⟩,fun j hj=> ?_,fun i N j hN hj hp=> ?_,h1,fun i N hN hb hk=>Nat.lt_succ_of_lt (h.split i N hN hb hk),fun c hc=>by cases hc⟩
 ·show∃N,a.Ns[c.2.getD j 0]?=some N∧j/2^(a.d+1-N.au)=N.pfx;have hj':j<2^(a.d+1):=hj;obtain⟨N,g1,g2⟩:=h.Rj (j/2) (by omega);rw[h3 j (by omega)];exact⟨N,g1,by rw[hdv j _ (h.fit _ _ g1).1];exact g2⟩
 ·show c.2.getD j 0=i;have hj':j<2^(a.d+1):=hj;have hp':j/2^(a.d+1-N.au)=N.pfx:=hp;rw[h3 j (by omega)];rw[hdv j _ (h.fit _ _ hN).1]at hp';exact h.from_ i N _ hN (by omega) hp'
def Pool.split (a:Pool)(id:Nat)(N0 N1:Nd):Pool:=
 let fr:=cB N1.pfx N1.au a.d
 let n:=2^(a.d-N1.au)
 let l':=jG a.l fr a.Ns.length n
 {Ns:=a.Ns.set id N0++[N1],d:=a.d,l:=l',cop:=a.cop.map fun c=>(c.1,qz c.2 l' fr (min (fr+n) c.1-fr))}
theorem eF.Wt {a:Pool}(h:eF a){N0 N1:Nd}(hN:a.Ns[id]?=some N)(hd:N.au<a.d)(h0:N0.pfx=2*N.pfx∧N0.au=N.au+1∧N0.ph.busy=false)(h1:N1.pfx=2*N.pfx+1∧N1.au=N.au+1∧N1.ph.busy=false):eF (a.split id N0 N1):=by
 have hid:=bG hN;obtain⟨g1,g2⟩:=h.fit id N hN;have hpw:2^(N.au+1)=2^N.au*2:=Nat.pow_succ ..;obtain⟨e,he⟩:∃e,e=a.d-(N.au+1):=⟨_,rfl⟩
 have he1:a.d-N.au=e+1:=by omega
 have hpe:2^(e+1)=2^e*2:=Nat.pow_succ ..;have hlen:=h.len
 have aaA:cB N1.pfx N1.au a.d=(2*N.pfx+1)*2^e:=by unfold cB;rw[h1.1,h1.2.1,he]
 have hn:2^(a.d-N1.au)=2^e:=by rw[h1.2.1,he]
 have hft:(2*N.pfx+1)*2^e+2^e≤2^a.d:=by
  have h3:=Er (p:=2*N.pfx+1) (pd:=N.au+1) (d:=a.d) (by omega) (by omega);unfold cB at h3;rw[←he]at h3;exact h3
 have hl':∀j,j<2^a.d→(a.split id N0 N1).l.getD j 0=if j/2^e=2*N.pfx+1 then a.Ns.length else a.l.getD j 0:=fun j hj=>by
  show(jG a.l (cB N1.pfx N1.au a.d) a.Ns.length (2^(a.d-N1.au))).getD j 0=_;rw[Rl,aaA,hn];by_cases h3:j/2^e=2*N.pfx+1
  ·rw[if_pos h3,if_pos ⟨(vV.1 h3).1,(vV.1 h3).2,by omega⟩]
  ·rw[if_neg h3,if_neg (fun hh=>h3 (vV.2 ⟨hh.1,hh.2.1⟩))]
 have hdv:∀j,j/2^(e+1)=j/2^e/2:=fun j=>by rw[Nat.div_div_eq_div_mul,Nat.pow_succ]
 have hget:∀(i:Nat) (X:Nd),(a.split id N0 N1).Ns[i]?=some X→(i=id∧X=N0)∨(i=a.Ns.length∧X=N1)∨(i≠id∧i<a.Ns.length∧a.Ns[i]?=some X):=fun i X hX=>by
  have iE:(a.Ns.set id N0++[N1])[i]?=some X:=hX;by_cases hi:i<a.Ns.length
  ·rw[List.getElem?_append_left (by simpa using hi),List.getElem?_set]at iE;by_cases hii:id=i
   ·subst hii;rw[if_pos rfl,if_pos hid]at iE;cases iE;exact .inl ⟨rfl,rfl⟩
   ·rw[if_neg hii]at iE;exact .inr (.inr ⟨fun hh=>hii hh.symm,hi,iE⟩)
  ·rw[List.getElem?_append_right (by simpa using hi),List.length_set]at iE
   have hi0:i-a.Ns.length=0:=by have:=bG iE;simp at this;omega
   rw[hi0]at iE;cases iE;exact .inr (.inl ⟨by omega,rfl⟩)
 have adG:(a.split id N0 N1).Ns[id]?=some N0:=by
  show(a.Ns.set id N0++[N1])[id]?=some N0;rw[List.getElem?_append_left (by simpa using hid)];simp[hid]
 have adH:(a.split id N0 N1).Ns[a.Ns.length]?=some N1:=by
  show(a.Ns.set id N0++[N1])[a.Ns.length]?=some N1;rw[List.getElem?_append_right (by simp)];simp
 have adI:∀(i:Nat) (X:Nd),i≠id→a.Ns[i]?=some X→(a.split id N0 N1).Ns[i]?=some X:=fun i X hi hX=>by
  show(a.Ns.set id N0++[N1])[i]?=some X;rw[List.getElem?_append_left (by simpa using bG hX),List.getElem?_set,if_neg (fun hh=>hi hh.symm)];exact hX
 have hd':(a.split id N0 N1).d=a.d:=rfl;refine⟨fun i X hX=> ?_,fun j hj=> ?_,fun i X j hX hj hp=> ?_,by show(jG _ _ _ _).length=_;rw[lV];exact hlen,fun i X hX hb hk=> ?_,fun c hc=> ?_⟩
 ·rcases hget i X hX with⟨_,rfl⟩|⟨_,rfl⟩|⟨_,_,h3⟩
  ·rw[h0.1,h0.2.1,hd'];omega
  ·rw[h1.1,h1.2.1,hd'];omega
  ·exact h.fit i X h3
 ·rw[hl' j hj];by_cases h3:j/2^e=2*N.pfx+1
  ·rw[if_pos h3];exact⟨N1,adH,by rw[hd',h1.2.1,←he,h1.1];exact h3⟩
  ·rw[if_neg h3];obtain⟨X,x1,x2⟩:=h.Rj j hj;by_cases h4:a.l.getD j 0=id
   ·rw[h4]at x1⊢;rw[hN]at x1;cases x1;rw[he1,hdv]at x2;exact⟨N0,adG,by rw[hd',h0.2.1,←he,h0.1];omega⟩
   ·exact⟨X,adI _ X h4 x1,x2⟩
 ·rw[hl' j hj];rw[hd']at hp;rcases hget i X hX with⟨rfl,rfl⟩|⟨rfl,rfl⟩|⟨h3,h4,h5⟩
  ·rw[h0.2.1,←he,h0.1]at hp;rw[if_neg (by omega)];exact h.from_ i N j hN hj (by rw[he1,hdv,hp];omega)
  ·rw[h1.2.1,←he,h1.1]at hp;rw[if_pos hp]
  ·have h6:=h.from_ i X j h5 hj hp;rw[if_neg (fun hh=> ?_)]
   ·exact h6
   ·have:=h.from_ id N j hN hj (by rw[he1,hdv,hh];omega);exact h3 (h6.symm.trans this)
 ·rcases hget i X hX with⟨_,rfl⟩|⟨_,rfl⟩|⟨_,_,h5⟩
  ·rw[h0.2.2]at hb;cases hb
  ·rw[h1.2.2]at hb;cases hb
  ·exact h.split i X h5 hb hk
 ·have hc':(a.cop.map fun c=>(c.1,qz c.2 (a.split id N0 N1).l (cB N1.pfx N1.au a.d) (min (cB N1.pfx N1.au a.d+2^(a.d-N1.au)) c.1-cB N1.pfx N1.au a.d)))=some c:=hc
  cases hcc:a.cop with
  |none=>rw[hcc]at hc';cases hc'
  |some c0=>
   rw[hcc]at hc';obtain⟨k1,k2,k3⟩:=h.cop c0 hcc;have hc2:=(Option.some.inj hc').symm;rw[aaA,hn]at hc2;have aga:2^(a.d+1)=2^a.d*2:=Nat.pow_succ ..
   have hll:(a.split id N0 N1).l.length=a.l.length:=by show(jG _ _ _ _).length=_;rw[lV]
   rw[hc2];refine⟨by simp only;rw[zI];exact k1,by simp only;rw[hll];exact k2,fun j hj=> ?_⟩;simp only at hj⊢;rw[Rn _ _ _ _ _ (by omega)];by_cases h3:(2*N.pfx+1)*2^e≤j/2∧j/2<(2*N.pfx+1)*2^e+(min ((2*N.pfx+1)*2^e+2^e) c0.1-(2*N.pfx+1)*2^e)
   ·rw[if_pos h3]
   ·rw[if_neg h3,k3 j hj,hl' (j/2) (by omega),if_neg (fun hh=> ?_)];have:=vV.1 hh;omega
end
section
variable {F' S : List Nat} {x' : bL}
structure iF where
 mb:Nat
 sb:Nat
 qb:Nat
 rb:Nat
 jb:Nat
 A:dA
 v:Value
 K:Nat
 M:Nat
 I:Nat
 m:Int
structure lG where
 a:Pool
 ids:List Nat
 len:Nat
 b:Int
 x:bL
def dA.val (A:dA)(id:Nat):Value:= .iface (A.jt id) (.pointer (some (A.ja id)))
def iF.s (C:iF):SP:=⟨C.sb,C.qb,C.rb,C.jb,(C.K:Int),C.A.val⟩
def lH (A:dA)(c:Option (Nat×List Nat)):Value:= .pointer (if c.isSome then some ⟨A.cb,0,none⟩else none)
def cmp (C:iF)(st:lG):MP:=⟨C.mb,147,[nI C.K,nI C.M,nI C.I],[C.v,pQ C.A.db,lH C.A st.a.cop,pQ C.sb,nI st.len],3,C.m⟩
def iF.foot (C:iF)(F:List Nat):List Nat:=C.mb::(C.s.blocks++(F++C.v.ownBlock.toList))
def jK (A:dA)(n:Nat):List Value:=ptrs ((List.range n).map A.nb)
structure aB (W0:World)(E:Nat→Addr)(H:Nat→Nat)(C:iF)(w0:World)(G0:List Nat)(w:World)(F:List Nat)(st:lG):Prop where
 aD:bD W0 E (cmp C st) (Ay W0 C.mb H C.A) C.s w F w st.b st.ids st.a F st.x
 row:w.ownsRow W0.heap.size 135 1 C.v st.a.Ns.length (jK C.A st.a.Ns.length)
 Az:nL (cmp C st) C.s F C.v
 pos:1≤st.a.Ns.length
 kk:1≤C.K∧C.K≤64
 mm:1≤C.M∧C.M≤192
 qH:W0.heap.size≤w0.heap.size
 sub:∀q∈C.foot F,q∈G0∨w0.heap.size≤q
 mod:Mod G0 w0 w
section
variable {W0 : World} {E : Nat → Addr} {H : Nat → Nat} {C : iF} {w0 : World} {G0 : List Nat} {w w' : World} {F : List Nat} {st : lG}
theorem aB.hp (h:aB W0 E H C w0 G0 w F st):iO W0 E (cmp C st) C.A.jt C.A.ja (Ay W0 C.mb H C.A) Pool.can Pool.left (Pool.step H):=Ev (P:=cmp C st) C.A h.aD.rZ
theorem aZ {q:Nat}:q∈C.foot F↔q=C.mb∨q∈C.s.blocks∨q∈F∨C.v.ownBlock=some q:=by
 unfold iF.foot;simp[eq_comm]
theorem aB.gI (h:aB W0 E H C w0 G0 w F st):∀q∈C.foot F,q<w.heap.size:=by
 intro q hq;have hl:=h.aD.gI h.hp;rcases aZ.1 hq with rfl|h1|h1|h1
 ·exact h.aD.met.lt
 ·exact hl q (by simp[h1])
 ·exact hl q (by simp[h1])
 ·exact(h.row.lt q h1).2
theorem aB.Zw (h:aB W0 E H C w0 G0 w F st):∀q∈C.foot F,W0.heap.size≤q:=by
 intro q hq;rcases aZ.1 hq with rfl|h1|h1|h1
 ·exact h.aD.rZ
 ·exact(h.aD.apart q h1).2.2
 ·exact(h.hp.lt h.aD.pool q h1).2
 ·exact(h.row.lt q h1).1
theorem aB.acE (h:aB W0 E H C w0 G0 w F st)(A':dA)(v':Value)(st':lG)(hm:Mod S w w')(hS:∀q∈S,q∈C.foot F)(Zx:dX w' C.sb C.qb C.rb C.jb (C.K:Int) st'.b A'.val st'.ids)(TF:Ay W0 C.mb H A' w' F' st'.a)(hmet:aN w' (cmp {C with A:=A',v:=v'} st') st'.x)(hrow:w'.ownsRow W0.heap.size 135 1 v' st'.a.Ns.length (jK A' st'.a.Ns.length))(hpos:1≤st'.a.Ns.length)(hF:∀q∈F',q∈F∨((q∈G0∨w0.heap.size≤q)∧q∉C.foot F))(hg:∀g,v'.ownBlock=some g→(C.v.ownBlock=some g∨w.heap.size≤g)∧(w.heap.size≤g→g∉F')):
  aB W0 E H {C with A:=A',v:=v'} w0 G0 w' F' st':=by
 have hl:=h.gI;have hbl:∀q∈C.s.blocks,q∈C.foot F:=fun q hq=>aZ.2 (.inr (.inl hq));refine⟨bD.start (P:=cmp {C with A:=A',v:=v'} st') (s:=({C with A:=A',v:=v'}:iF).s) Zx TF hmet (h.aD.env.mod hm (fun q hq=>h.Zw q (hS q hq))) (fun q hq=> ?_) h.aD.rZ,hrow,fun g hgg hq=> ?_,hpos,h.kk,h.mm,h.qH,fun q hq=> ?_, ?_⟩
 ·have hq':q∈C.s.blocks:=hq;have ha:=h.aD.apart q hq';refine⟨fun hqF=> ?_,ha.2⟩;rcases hF q hqF with h1|h1
  ·exact ha.1 h1
  ·exact h1.2 (hbl q hq')
 ·obtain⟨h1,h2⟩:=hg g hgg
  have hq':g=C.mb∨g∈C.s.blocks∨g∈F':=by
   rcases List.mem_cons.1 hq with h3|h3
   ·exact .inl h3
   ·exact .inr (List.mem_append.1 h3)
  have hml:=h.aD.met.lt;have hml':C.mb<w.heap.size:=hml;rcases h1 with h1|h1
  ·have hr:=h.Az g h1;simp only[List.mem_cons,List.mem_append,not_or]at hr;rcases hq' with h3|h3|h3
   ·exact hr.1 h3
   ·exact hr.2.1 h3
   ·rcases hF g h3 with h4|h4
    ·exact hr.2.2 h4
    ·exact h4.2 (aZ.2 (.inr (.inr (.inr h1))))
  ·rcases hq' with h3|h3|h3
   ·omega
   ·have:=hl g (hbl g h3);omega
   ·exact h2 h1 h3
 ·have hz:=h.mod.size;rcases aZ.1 hq with h1|h1|h1|h1
  ·exact h.sub q (aZ.2 (.inl h1))
  ·exact h.sub q (aZ.2 (.inr (.inl h1)))
  ·rcases hF q h1 with h2|h2
   ·exact h.sub q (aZ.2 (.inr (.inr (.inl h2))))
   ·exact h2.1
  ·rcases(hg q h1).1 with h2|h2
   ·exact h.sub q (aZ.2 (.inr (.inr (.inr h2))))
   ·right;omega
 ·exact h.mod.trans hm (fun _ hh _=>hh) (fun q hq hlt=>by
   rcases h.sub q (hS q hq)with h1|h1
   ·exact h1
   ·omega)
theorem aB.upd (h:aB W0 E H C w0 G0 w F st)(A':dA)(v':Value)(st':lG)(hm:Mod S w w')(hS:∀q∈S,q∈C.foot F)(Zx:dX w' C.sb C.qb C.rb C.jb (C.K:Int) st'.b A'.val st'.ids)(TF:Ay W0 C.mb H A' w' F' st'.a)(hmet:aN w' (cmp {C with A:=A',v:=v'} st') st'.x)(hrow:w'.ownsRow W0.heap.size 135 1 v' st'.a.Ns.length (jK A' st'.a.Ns.length))(hpos:1≤st'.a.Ns.length)(hF:∀q∈F',q∈F∨w.heap.size≤q)(hg:∀g,v'.ownBlock=some g→(C.v.ownBlock=some g∨w.heap.size≤g)∧(w.heap.size≤g→g∉F')):
  aB W0 E H {C with A:=A',v:=v'} w0 G0 w' F' st':=
 h.acE A' v' st' hm hS Zx TF hmet hrow hpos (fun q hq=>(hF q hq).imp (fun hh=>hh) (fun hh=>⟨.inr (Nat.le_trans h.mod.size hh),fun hf=>by have:=h.gI q hf;omega⟩)) hg
theorem lW (h:aB W0 E H C w0 G0 w F st)(hm:Mod S w w')(hS:∀q∈S,q=C.mb∨q∈C.s.blocks∨q∈F):w'.ownsRow W0.heap.size 135 1 C.v st.a.Ns.length (jK C.A st.a.Ns.length):=
 jJ h.row hm (fun k hk IX=>h.Az k hk (by
  show k∈C.mb::(C.s.blocks++F)
  rcases hS k IX with h1|h1|h1<;>simp[h1]))
theorem yC (h:aB W0 E H C w0 G0 w F st):∀g,C.v.ownBlock=some g→(C.v.ownBlock=some g∨w.heap.size≤g)∧(w.heap.size≤g→g∉F):=fun g hg=>⟨.inl hg,fun hh=>by have:=(h.row.lt g hg).2;omega⟩
theorem aB.below (h:aB W0 E H C w0 G0 w F st)(hb:Below w.heap.size w w'):aB W0 E H C w0 G0 w' F st:=
 h.upd C.A C.v st (S:=[]) (Mod.of_below hb []) (by simp) (h.aD.aD.mod (Mod.of_below hb []) (by simp)) (h.hp.zK h.aD.pool (Mod.of_below hb []) (by simp)) (h.aD.met.below hb) (lW h (Mod.of_below hb []) (by simp)) h.pos (fun _ hq=> .inl hq) (yC h)
theorem aB.met (h:aB W0 E H C w0 G0 w F st)(hM:aN w' (cmp C st) x')(hm:Mod [C.mb] w w'):aB W0 E H C w0 G0 w' F {st with x:=x'}:=
 h.upd C.A C.v {st with x:=x'} hm (fun q hq=>aZ.2 (.inl (by simpa using hq))) (h.aD.aD.mod hm (fun q hq dK=>(h.aD.apart q hq).2.1 (List.mem_singleton.1 dK))) (h.hp.zK h.aD.pool hm (fun q hq dK=>h.hp.mb h.aD.pool (by show C.mb∈F;rw[←List.mem_singleton.1 dK];exact hq))) hM (lW (st:=st) h hm (fun q hq=> .inl (List.mem_singleton.1 hq))) h.pos (fun _ hq=> .inl hq) (yC h)
theorem aB.Wu (h:aB W0 E H C w0 G0 w F st)(n:Nat):aB W0 E H C w0 G0 (w.setCell ⟨C.mb,15,none⟩ (nI n)) F {st with len:=n}:=by
 have hm:Mod [C.mb] w (w.setCell ⟨C.mb,15,none⟩ (nI n)):=(Mod.refl _ w).ak (.inl (by simp)) _ _;refine h.upd C.A C.v {st with len:=n} hm (fun q hq=>aZ.2 (.inl (by simpa using hq))) (h.aD.aD.mod hm (fun q hq dK=>(h.aD.apart q hq).2.1 (List.mem_singleton.1 dK))) (h.hp.zK h.aD.pool hm (fun q hq dK=>h.hp.mb h.aD.pool (by show C.mb∈F;rw[←List.mem_singleton.1 dK];exact hq))) ⟨rfl, ?_⟩ (lW (st:=st) h hm (fun q hq=> .inl (List.mem_singleton.1 hq))) h.pos (fun _ hq=> .inl hq) (yC h)
 exact Met.blk h.aD.met|>.ak 15 _
theorem aB.cells (h:aB W0 E H C w0 G0 w F st):w.cell? ⟨C.mb,0,none⟩=some (nI C.K)∧w.cell? ⟨C.mb,1,none⟩=some (nI C.M)∧w.cell? ⟨C.mb,11,none⟩=some C.v∧w.cell? ⟨C.mb,12,none⟩=some (pQ C.A.db)∧w.cell? ⟨C.mb,13,none⟩=some (lH C.A st.a.cop)∧w.cell? ⟨C.mb,14,none⟩=some (pQ C.sb)∧w.cell? ⟨C.mb,15,none⟩=some (nI st.len):=
 ⟨(Met.blk h.aD.met).cell 0,(Met.blk h.aD.met).cell 1,(Met.blk h.aD.met).cell 11,(Met.blk h.aD.met).cell 12,(Met.blk h.aD.met).cell 13,(Met.blk h.aD.met).cell 14,(Met.blk h.aD.met).cell 15⟩
theorem aB.frozen (h:aB W0 E H C w0 G0 w F st)(i:Nat):w.frozen? ⟨C.mb,i,none⟩=false:=(Met.blk h.aD.met).frozen i
theorem aB.rowAt (h:aB W0 E H C w0 G0 w F st):∃vb cap,C.v= .slice (some ⟨vb,0,none⟩) st.a.Ns.length cap∧∀id,id<st.a.Ns.length→w.cell? ⟨vb,id,none⟩=some (.pointer (some ⟨C.A.nb id,0,none⟩)):=by
 have hr:=h.row;obtain⟨A,c,hv⟩:=bA hr;rw[hv]at hr;obtain⟨rb,rfl,_,hra,_⟩:=fA.fD hr (by have:=h.pos;omega);exact⟨rb,c,hv,fun id hid=>hra.at_ id _ (by simp[hid])⟩
theorem aB.node (h:aB W0 E H C w0 G0 w F st){id:Nat}{N:Nd}(hN:st.a.Ns[id]?=some N):∃Fi,bJ w (C.A.nb id) Fi N∧dU H N∧C.mb∉Fi∧(∀q∈Fi,W0.heap.size≤q)∧(∀q∈Fi,q∈F)∧
  ∀(w':World) (F' S:List Nat) (N':Nd) (x':bL),bJ w' (C.A.nb id) F' N'→dU H N'→(∀q∈F',q∈Fi∨w.heap.size≤q)→aN w' (cmp C st) x'→Mod S w w'→(∀q∈S,q=C.mb∨q∈Fi)→∃F2,aB W0 E H C w0 G0 w' F2 {st with a:={st.a with Ns:=st.a.Ns.set id N'},x:=x'}:=by
 obtain⟨Fs,hF,hp⟩:=h.aD.pool;obtain⟨hA,hO⟩:=hp.lF id N hN;have hid:=bG hN;have hin:∀q∈Fs id,q∈F:=fun q hq=>hF▸aS.2 (.inl ⟨id,hid,hq⟩);refine⟨Fs id,hA,hO,fun hq=>hp.mb (aS.2 (.inl ⟨id,hid,hq⟩)),fun q hq=>hp.low q (aS.2 (.inl ⟨id,hid,hq⟩)),hin,fun w' F' S N' x' hA' hO' hF' hM hm hS=> ?_⟩;have hP:=hp.node hN hA' hO' hF' hm hS h.aD.env.size h.aD.met.lt;have hS':∀q∈S,q=C.mb∨q∈C.s.blocks∨q∈F:=fun q hq=>(hS q hq).imp (fun hh=>hh) (fun hh=> .inr (hin q hh));have hlen:(st.a.Ns.set id N').length=st.a.Ns.length:=List.length_set;refine⟨_,h.upd C.A C.v {st with a:={st.a with Ns:=st.a.Ns.set id N'},x:=x'} hm (fun q hq=> ?_) (h.aD.aD.mod hm (fun q hq dK=> ?_)) ⟨_,rfl,hP⟩ hM ?_ ?_ (fun q hq=> ?_) (fun g hg=>⟨.inl hg,fun hh=>by have:=(h.row.lt g hg).2;omega⟩)⟩
 ·rcases hS' q hq with h1|h1|h1
  ·exact aZ.2 (.inl h1)
  ·exact aZ.2 (.inr (.inl h1))
  ·exact aZ.2 (.inr (.inr (.inl h1)))
 ·have ha:=h.aD.apart q hq;rcases hS q dK with h1|h1
  ·exact ha.2.1 h1
  ·exact ha.1 (hin q h1)
 ·show w'.ownsRow W0.heap.size 135 1 C.v (st.a.Ns.set id N').length (jK C.A (st.a.Ns.set id N').length);rw[hlen];exact lW h hm hS'
 ·show 1≤(st.a.Ns.set id N').length;rw[hlen];exact h.pos
 ·rcases aS.1 hq with⟨i,hi,hq2⟩|hq2
  ·have hi':i<st.a.Ns.length:=by simpa using hi
   by_cases e1:i=id
   ·simp only[if_pos e1]at hq2;rcases hF' q hq2 with h6|h6
    ·exact .inl (hin q h6)
    ·exact .inr h6
   ·simp only[if_neg e1]at hq2;exact .inl (hF▸aS.2 (.inl ⟨i,hi',hq2⟩))
  ·exact .inl (hF▸aS.2 (.inr hq2))
theorem aB.again (h:aB W0 E H C w0 G0 w F st):aB W0 E H C w (C.foot F) w F st:=⟨h.aD,h.row,h.Az,h.pos,h.kk,h.mm,h.aD.env.size,fun _ hq=> .inl hq,Mod.refl _ _⟩
theorem aB.chain {C':iF}{st':lG}(h:aB W0 E H C w0 G0 w F st)(k:aB W0 E H C' w (C.foot F) w' F' st'):aB W0 E H C' w0 G0 w' F' st':=
 ⟨k.aD,k.row,k.Az,k.pos,k.kk,k.mm,h.qH,fun q hq=>by
  have hz:=h.mod.size;rcases k.sub q hq with h1|h1
  ·exact h.sub q h1
  ·right;omega,h.mod.trans k.mod (fun _ hh _=>hh) (fun q hq hl=>by
   rcases h.sub q hq with h1|h1
   ·exact h1
   ·omega)⟩
theorem aB.served (h:aB W0 E H C w0 G0 w F st){b':Int}{aK:List Nat}{a':Pool}(hs:bD W0 E (cmp C st) (Ay W0 C.mb H C.A) C.s w F w' b' aK a' F' x')(hlen:a'.Ns.length=st.a.Ns.length)(Gz:a'.cop.isSome=st.a.cop.isSome):aB W0 E H C w0 G0 w' F' {st with a:=a',ids:=aK,b:=b',x:=x'}:=by
 have hm:=hs.mod;have hm':Mod (C.mb::(C.s.blocks++F)) w w':=hm;refine h.upd C.A C.v {st with a:=a',ids:=aK,b:=b',x:=x'} hm' (fun q hq=> ?_) hs.aD hs.pool ?_ ?_ (by show 1≤a'.Ns.length;rw[hlen];exact h.pos) hs.sub (fun g hg=>⟨.inl hg,fun hh=>by have:=(h.row.lt g hg).2;omega⟩)
 ·simp only[List.mem_cons,List.mem_append]at hq;rcases hq with h1|h1|h1
  ·exact aZ.2 (.inl h1)
  ·exact aZ.2 (.inr (.inl h1))
  ·exact aZ.2 (.inr (.inr (.inl h1)))
 ·have:=hs.met
  have hc:cmp C {st with a:=a',ids:=aK,b:=b',x:=x'}=cmp C st:=by unfold cmp lH;simp only;rw[Gz]
  show aN w' (cmp C {st with a:=a',ids:=aK,b:=b',x:=x'}) x';rw[hc];exact this
 ·show w'.ownsRow W0.heap.size 135 1 C.v a'.Ns.length (jK C.A a'.Ns.length);rw[hlen];exact lW h hm' (fun q hq=>by simpa[List.mem_cons,List.mem_append]using hq)
end
end
end Go.Proofs.YtnfjjbpmhcbelaaGreatDoor
