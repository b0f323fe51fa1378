/- The pool of a core's jobs: its nodes, its directory, its copyist. -/
import Derived.Test.YtfbljmcjadfkoaaGreatDoorCoBW
import Derived.Test.YtfbljmcjadfkoaaGreatDoorCoBQ
import Derived.Test.YtfbljmcjadfkoaaGreatDoorSq
namespace Go.Proofs.YtfbljmcjadfkoaaGreatDoor
set_option maxRecDepth 100000
set_option maxHeartbeats 4000000
open Go.RowKit AmC
section
structure Pool where
 Ns:List Nd
 d:Nat
 l:List Nat
 cop:Option (Nat×List Nat)
structure Adr where
 nb:Nat→Nat
 db:Nat
 eb:Nat
 cb:Nat
 fb:Nat
 fe:Nat
def Adr.dirF (A:Adr)(c:Option (Nat×List Nat)):List Nat:=A.db::A.eb::(if c.isSome then [A.cb,A.fb,A.fe]else [])
def Adr.jt (_:Adr)(id:Nat):TypeId:=if id=32 then 152 else 142
def Adr.ja (A:Adr)(id:Nat):Addr:=⟨if id=32 then A.cb else A.nb id,0,none⟩
def footP (A:Adr)(Fs:Nat→List Nat)(a:Pool):List Nat:=(List.range a.Ns.length).flatMap Fs++A.dirF a.cop
theorem mem_footP {A:Adr}{Fs:Nat→List Nat}{a:Pool}{q:Nat}:q∈footP A Fs a↔(∃i,i<a.Ns.length∧q∈Fs i)∨q∈A.dirF a.cop:=by
 unfold footP;rw[List.mem_append,List.mem_flatMap];simp[List.mem_range]
structure PoolIn (W0:World)(mb:Nat)(H:Nat→Nat)(A:Adr)(w:World)(Fs:Nat→List Nat)(a:Pool):Prop where
 nds:∀(i:Nat) (N:Nd),a.Ns[i]?=some N→NdAt w (A.nb i) (Fs i) N∧NOk H N
 dir:DirAt w A.db A.eb a.d a.l
 cop:∀(next:Nat) (lf:List Nat),a.cop=some (next,lf)→CopAt w A.cb A.db A.eb A.fb A.fe a.d next a.l lf
 sep:∀i j,i<a.Ns.length→j<a.Ns.length→i≠j→∀q∈Fs i,q∉Fs j
 sepD:∀i,i<a.Ns.length→∀q∈Fs i,q∉A.dirF a.cop
 low:∀q∈footP A Fs a,W0.heap.size≤q
 mb:mb∉footP A Fs a
 le32:a.Ns.length≤32
def PoolAt (W0:World)(mb:Nat)(H:Nat→Nat)(A:Adr)(w:World)(F:List Nat)(a:Pool):Prop:=∃Fs,F=footP A Fs a∧PoolIn W0 mb H A w Fs a
def Pool.can (a:Pool)(id:Nat):Prop:=(∃N,a.Ns[id]?=some N∧N.ph.busy=true)∨(a.Ns[id]?=none∧id=32∧∃c,a.cop=some c)
def Pool.left (a:Pool)(id:Nat):Nat:=match a.Ns[id]? with
 |some N=>N.left
 |none=>match a.cop with
  |some c=>if id=32 then a.l.length-c.1 else 0
  |none=>0
def Pool.step (H:Nat→Nat)(a:Pool)(id:Nat)(a':Pool):Prop:=
 (∃N,a.Ns[id]?=some N∧N.ph.busy=true∧1≤N.left∧NOk H N∧a'={a with Ns:=a.Ns.set id N.step})∨
 (a.Ns[id]?=none∧id=32∧∃c,a.cop=some c∧c.1<a.l.length∧a'={a with cop:=some (c.1+1,dblN c.2 c.1 (a.l.getD c.1 0) 2)})
section
variable {W0 w w' : World} {mb : Nat} {H : Nat → Nat} {A : Adr} {Fs : Nat → List Nat} {F : List Nat} {a : Pool}
theorem get_lt {α:Type}{l:List α}{i:Nat}{x:α}(h:l[i]?=some x):i<l.length:=(List.getElem?_eq_some_iff.1 h).1
theorem PoolIn.lts (h:PoolIn W0 mb H A w Fs a):∀q∈footP A Fs a,q<w.heap.size:=by
 intro q hq;rcases mem_footP.1 hq with⟨i,hi,hq⟩|hq
 ·exact(h.nds i _ (List.getElem?_eq_getElem hi)).1.lts q hq
 ·unfold Adr.dirF at hq;simp only[List.mem_cons]at hq;rcases hq with rfl|rfl|hq
  ·exact h.dir.lt
  ·exact h.dir.ltE
  ·cases hc:a.cop with
   |none=>rw[hc]at hq;simp at hq
   |some c=>
    have:=h.cop c.1 c.2 hc;rw[hc]at hq;simp at hq;rcases hq with rfl|rfl|rfl
    ·exact this.blk.lt
    ·exact this.fresh.lt
    ·exact this.fresh.ltE
theorem PoolIn.mod {S:List Nat}(h:PoolIn W0 mb H A w Fs a)(hm:Mod S w w')(hS:∀q∈footP A Fs a,q∉S):PoolIn W0 mb H A w' Fs a:=
 ⟨fun i N hN=>⟨(h.nds i N hN).1.mod hm (fun q hq=>hS q (mem_footP.2 (.inl ⟨i,get_lt hN,hq⟩))),(h.nds i N hN).2⟩,
  h.dir.mod hm (hS _ (mem_footP.2 (.inr (by simp[Adr.dirF])))) (hS _ (mem_footP.2 (.inr (by simp[Adr.dirF])))),
  fun next lf hc=>(h.cop next lf hc).mod hm (fun q hq=>hS q (mem_footP.2 (.inr (by unfold Adr.dirF;rw[hc];simp at hq⊢;omega)))),
  h.sep,h.sepD,h.low,h.mb,h.le32⟩
theorem PoolIn.node (h:PoolIn W0 mb H A w Fs a){id:Nat}{N N':Nd}{F' S:List Nat}(hN:a.Ns[id]?=some N)(hA:NdAt w' (A.nb id) F' N')(hO:NOk H N')(hF:∀q∈F',q∈Fs id∨w.heap.size≤q)(hm:Mod S w w')(hS:∀q∈S,q=mb∨q∈Fs id)(h0:W0.heap.size≤w.heap.size)(hmb:mb<w.heap.size):
  PoolIn W0 mb H A w' (fun i=>if i=id then F' else Fs i) {a with Ns:=a.Ns.set id N'}:=by
 have hid:=get_lt hN;have hlts:=h.lts
 have hset:∀(i:Nat) (X:Nd),(a.Ns.set id N')[i]?=some X→(i=id∧X=N')∨(i≠id∧a.Ns[i]?=some X):=fun i X hX=>by
  rw[List.getElem?_set]at hX;by_cases hi:id=i
  ·rw[if_pos hi,if_pos hid]at hX;cases hX;exact .inl ⟨hi.symm,rfl⟩
  ·rw[if_neg hi]at hX;exact .inr ⟨fun e=>hi e.symm,hX⟩
 have hin:∀q,q∈footP A (fun i=>if i=id then F' else Fs i) {a with Ns:=a.Ns.set id N'}→q∈footP A Fs a∨w.heap.size≤q:=fun q hq=>by
  rcases mem_footP.1 hq with⟨i,hi,hq⟩|hq
  ·simp only[List.length_set]at hi;by_cases e:i=id
   ·simp only[if_pos e]at hq;rcases hF q hq with h1|h1
    ·exact .inl (mem_footP.2 (.inl ⟨id,hid,h1⟩))
    ·exact .inr h1
   ·simp only[if_neg e]at hq;exact .inl (mem_footP.2 (.inl ⟨i,hi,hq⟩))
  ·exact .inl (mem_footP.2 (.inr hq))
 have hkeep:∀i,i<a.Ns.length→i≠id→∀q∈Fs i,q∉S:=fun i hi he q hq hqS=>by
  rcases hS q hqS with rfl|h1
  ·exact h.mb (mem_footP.2 (.inl ⟨i,hi,hq⟩))
  ·exact h.sep i id hi hid he q hq h1
 have hkd:∀q∈A.dirF a.cop,q∉S:=fun q hq hqS=>by
  rcases hS q hqS with rfl|h1
  ·exact h.mb (mem_footP.2 (.inr hq))
  ·exact h.sepD id hid q h1 hq
 refine⟨fun i X hX=> ?_,h.dir.mod hm (hkd _ (by simp[Adr.dirF])) (hkd _ (by simp[Adr.dirF])),fun next lf hc=>(h.cop next lf hc).mod hm (fun q hq=>hkd q (by have hc':a.cop=some (next,lf):=hc;unfold Adr.dirF;rw[hc'];simp at hq⊢;omega)),fun i j hi hj hij q hq hq2=> ?_,fun i hi q hq hq2=> ?_,fun q hq=> ?_,fun hq=> ?_,by simpa using h.le32⟩
 ·rcases hset i X hX with⟨rfl,rfl⟩|⟨h1,h2⟩
  ·simp only[if_pos];exact⟨hA,hO⟩
  ·simp only[if_neg h1];exact⟨(h.nds i X h2).1.mod hm (hkeep i (get_lt h2) h1),(h.nds i X h2).2⟩
 ·simp only[List.length_set]at hi hj
  by_cases e1:i=id<;>by_cases e2:j=id
  ·exact hij (e1.trans e2.symm)
  ·simp only[if_pos e1]at hq;simp only[if_neg e2]at hq2;rcases hF q hq with h1|h1
   ·exact h.sep j id hj hid e2 q hq2 h1
   ·have:=hlts q (mem_footP.2 (.inl ⟨j,hj,hq2⟩));omega
  ·simp only[if_neg e1]at hq;simp only[if_pos e2]at hq2;rcases hF q hq2 with h1|h1
   ·exact h.sep i id hi hid e1 q hq h1
   ·have:=hlts q (mem_footP.2 (.inl ⟨i,hi,hq⟩));omega
  ·simp only[if_neg e1]at hq;simp only[if_neg e2]at hq2;exact h.sep i j hi hj hij q hq hq2
 ·simp only[List.length_set]at hi;by_cases e1:i=id
  ·simp only[if_pos e1]at hq;rcases hF q hq with h1|h1
   ·exact h.sepD id hid q h1 hq2
   ·have:=hlts q (mem_footP.2 (.inr hq2));omega
  ·simp only[if_neg e1]at hq;exact h.sepD i hi q hq hq2
 ·rcases hin q hq with h1|h1
  ·exact h.low q h1
  ·omega
 ·rcases hin mb hq with h1|h1
  ·exact h.mb h1
  ·omega
theorem PoolIn.copied (h:PoolIn W0 mb H A w Fs a){c c':Nat×List Nat}{S:List Nat}(hc:a.cop=some c)(hC:CopAt w' A.cb A.db A.eb A.fb A.fe a.d c'.1 a.l c'.2)(hm:Mod S w w')(hS:∀q∈S,q=mb∨q∈A.dirF a.cop):
  PoolIn W0 mb H A w' Fs {a with cop:=some c'}∧footP A Fs {a with cop:=some c'}=footP A Fs a:=by
 have hd:A.dirF (some c')=A.dirF a.cop:=by rw[hc];rfl
 have hf:footP A Fs {a with cop:=some c'}=footP A Fs a:=by unfold footP;rw[←hd]
 refine⟨⟨fun i N hN=>⟨(h.nds i N hN).1.mod hm (fun q hq hqS=> ?_),(h.nds i N hN).2⟩,hC.old,fun next lf hcc=> ?_,h.sep,fun i hi q hq=>by show q∉A.dirF (some c');rw[hd];exact h.sepD i hi q hq,fun q hq=>h.low q (hf▸hq),fun hq=>h.mb (hf▸hq),h.le32⟩,hf⟩
 ·have hi:=get_lt hN;rcases hS q hqS with rfl|h1
  ·exact h.mb (mem_footP.2 (.inl ⟨i,hi,hq⟩))
  ·exact h.sepD i hi q hq h1
 ·have:c'=(next,lf):=Option.some.inj hcc;rw[this]at hC;exact hC
end
theorem jt_job (A:Adr)(id:Nat):JobT (A.jt id):=by
 unfold Adr.jt JobT;split
 ·exact .inr rfl
 ·exact .inl rfl
theorem job_node {A:Adr}{id:Nat}(h:id≠32):leftF (A.jt id)=326 ∧stepF (A.jt id)=327 ∧A.ja id=⟨A.nb id,0,none⟩:=by
 unfold Adr.jt Adr.ja;rw[if_neg h,if_neg h];exact⟨rfl,rfl,rfl⟩
theorem job_cop (A:Adr):leftF (A.jt 32)=262 ∧stepF (A.jt 32)=345 ∧A.ja 32=⟨A.cb,0,none⟩:=by
 unfold Adr.jt Adr.ja;rw[if_pos rfl,if_pos rfl];exact⟨by kernel_rfl,by kernel_rfl,rfl⟩
theorem pool_ok {W0:World}{E:Nat→Addr}{P:MP}{H:Nat→Nat}(A:Adr)(hb0:W0.heap.size≤P.mb):PoolOk W0 E P A.jt A.ja (PoolAt W0 P.mb H A) Pool.can Pool.left (Pool.step H) where
 jt_:=fun _=>jt_job A _
 lt:=fun⟨Fs,hF,h⟩ q hq=>⟨h.lts q (hF▸hq),h.low q (hF▸hq)⟩
 mb:=fun⟨Fs,hF,h⟩ hq=>h.mb (hF▸hq)
 stab:=fun⟨Fs,hF,h⟩ hm hS=>⟨Fs,hF,h.mod hm (fun q hq=>hS q (hF▸hq))⟩
 le:=fun{V F a id} ⟨Fs,hF,h⟩ hc=>by
  unfold Pool.left;rcases hc with⟨N,hN,hb⟩|⟨hN,rfl,c,hc⟩
  ·rw[hN];obtain⟨_,ho⟩:=h.nds id N hN;have h1:=ho.pw.le;have hph:=ho.ph;unfold PhOk at hph;show N.left≤1000;unfold Nd.left
   cases hp:N.ph with
   |idle=>simp
   |bld k=>
    rw[hp]at hph;obtain⟨k1,k2,k3,k4,_⟩:=kind_each ho.pw hph.1;simp only;omega
   |mov Ts next=>simp only;omega
  ·rw[hN,hc];have:=h.dir.small;show(if 32=32 then a.l.length-c.1 else 0)≤1000;rw[if_pos rfl];omega
 left_:=fun{V F a id} ⟨Fs,hF,h⟩ hc=>by
  rcases hc with⟨N,hN,hb⟩|⟨hN,rfl,c,hc⟩
  ·have hi:=get_lt hN;have:=h.le32;obtain⟨j1,j2,j3⟩:=job_node (A:=A) (id:=id) (by omega);obtain⟨hA,ho⟩:=h.nds id N hN
   have hl:a.left id=N.left:=by unfold Pool.left;rw[hN]
   rw[j1,j3,hl];exact nd_Left hA ho
  ·obtain⟨j1,j2,j3⟩:=job_cop A
   have hl:a.left 32=a.l.length-c.1:=by unfold Pool.left;rw[hN,hc];rfl
   rw[j1,j3,hl];exact(copyist_Left A.cb A.db A.eb A.fb A.fe a.d c.1 a.l c.2 V (h.cop c.1 c.2 hc)).mono fun e w' ⟨h1,h2⟩=>⟨h1,h2▸(Below.refl _ _).drew⟩
 step_:=fun{V F a id x} ⟨Fs,hF,h⟩ hc hl hE hM=>by
  have hml:=hM.lt;rcases hc with⟨N,hN,hb⟩|⟨hN,rfl,c,hc⟩
  ·have hi:=get_lt hN;have:=h.le32;obtain⟨j1,j2,j3⟩:=job_node (A:=A) (id:=id) (by omega);obtain⟨hA,ho⟩:=h.nds id N hN
   have hl':a.left id=N.left:=by unfold Pool.left;rw[hN]
   rw[hl']at hl;rw[j2,j3];refine(nd_Step hA ho hl hM hE hb0 (fun hq=>h.mb (mem_footP.2 (.inl ⟨id,hi,hq⟩))) (fun q hq=>h.low q (mem_footP.2 (.inl ⟨id,hi,hq⟩)))).mono ?_;rintro e V' ⟨rfl,F',x',h1,h2,h3,h4,h5⟩
   have hP:=h.node hN h1 (step_ok ho hl) h2 h5 (fun q hq=>by
    rcases List.mem_cons.1 hq with h6|h6
    ·exact .inl h6
    ·exact .inr h6) hE.size hml
   refine⟨rfl,_,_,x',.inl ⟨N,hN,hb,hl,ho,rfl⟩,⟨_,rfl,hP⟩,fun q hq=> ?_,h3,h4,h5.more (fun q hq=> ?_)⟩
   ·rw[hF];rcases mem_footP.1 hq with⟨i,hi2,hq2⟩|hq2
    ·simp only[List.length_set]at hi2;by_cases e1:i=id
     ·simp only[if_pos e1]at hq2;rcases h2 q hq2 with h6|h6
      ·exact .inl (mem_footP.2 (.inl ⟨id,hi,h6⟩))
      ·exact .inr h6
     ·simp only[if_neg e1]at hq2;exact .inl (mem_footP.2 (.inl ⟨i,hi2,hq2⟩))
    ·exact .inl (mem_footP.2 (.inr hq2))
   ·rcases List.mem_cons.1 hq with h6|h6
    ·simp[h6]
    ·exact List.mem_cons_of_mem _ (hF▸mem_footP.2 (.inl ⟨id,hi,h6⟩))
  ·obtain⟨j1,j2,j3⟩:=job_cop A
   have hl':a.left 32=a.l.length-c.1:=by unfold Pool.left;rw[hN,hc];rfl
   rw[hl']at hl;rw[j2,j3]
   have hdF:∀q∈[A.cb,A.db,A.eb,A.fb,A.fe],q∈A.dirF a.cop:=fun q hq=>by
    unfold Adr.dirF;rw[hc];simp at hq⊢;omega
   refine(copyist_Step A.cb A.db A.eb A.fb A.fe a.d c.1 a.l c.2 P x (by omega) V (h.cop c.1 c.2 hc) hM (fun hq=>h.mb (mem_footP.2 (.inr (hdF _ hq))))).mono ?_;rintro e V' ⟨rfl,h1,h2,h3⟩
   have hS:∀q∈[P.mb,A.cb,A.fe],q=P.mb∨q∈A.dirF a.cop:=fun q hq=>by
    simp at hq;rcases hq with rfl|rfl|rfl
    ·exact .inl rfl
    ·exact .inr (hdF _ (by simp))
    ·exact .inr (hdF _ (by simp))
   obtain⟨hP,hPf⟩:=h.copied (c':=(c.1+1,dblN c.2 c.1 (a.l.getD c.1 0) 2)) hc h1 h3 hS;refine⟨rfl,_,_,_,.inr ⟨hN,rfl,c,hc,by omega,rfl⟩,⟨Fs,rfl,hP⟩,fun q hq=> .inl (by rw[hF,←hPf];exact hq),h2,cost_U x 1,h3.more (fun q hq=> ?_)⟩;rcases hS q hq with h6|h6
   ·simp[h6]
   ·exact List.mem_cons_of_mem _ (hF▸mem_footP.2 (.inr h6))
 can_:=fun{a id a' j} hs hc=>by
  rcases hs with⟨N,hN,hb,_,_,rfl⟩|⟨hN,hid,c,hc',_,rfl⟩
  ·rcases hc with⟨M,hM,hb2⟩|⟨hM,rfl,c,hc⟩
   ·left;by_cases e:id=j
    ·subst e;exact⟨N.step,by simp[get_lt hN],by rw[(step_like N).busy];exact hb⟩
    ·exact⟨M,by simp[e,hM],hb2⟩
   ·right;refine⟨?_,rfl,c,hc⟩;simp at hM⊢;omega
  ·rcases hc with⟨M,hM,hb2⟩|⟨hM,rfl,c2,hc⟩
   ·exact .inl ⟨M,hM,hb2⟩
   ·exact .inr ⟨hM,rfl,_,rfl⟩
 left_same:=fun{a id a' j} hs hne=>by
  unfold Pool.left;rcases hs with⟨N,hN,hb,_,_,rfl⟩|⟨hN,hid,c,hc',_,rfl⟩
  ·simp only;rw[List.getElem?_set,if_neg (fun e=>hne e.symm)]
  ·simp only
   cases hj:a.Ns[j]? with
   |some N=>rfl
   |none=>
    rw[hc'];show(if j=32 then _ else 0)=(if j=32 then _ else 0);rw[if_neg (by omega),if_neg (by omega)]
 left_less:=fun{a id a'} hs=>by
  unfold Pool.left;rcases hs with⟨N,hN,hb,hl,ho,rfl⟩|⟨hN,rfl,c,hc',hl,rfl⟩
  ·simp only;rw[List.getElem?_set,if_pos rfl,if_pos (get_lt hN),hN];exact step_left ho hl
  ·simp only;rw[hN,hc'];show(if 32=32 then a.l.length-(c.1+1)else 0)+1=(if 32=32 then a.l.length-c.1 else 0);rw[if_pos rfl,if_pos rfl];omega
end
section
variable {hash id p : Nat} {N : Nd}
structure DirOk (a:Pool):Prop where
 fit:∀(i:Nat) (N:Nd),a.Ns[i]?=some N→N.dpt≤a.d∧N.pfx<2^N.dpt
 to_:∀j,j<2^a.d→∃N,a.Ns[a.l.getD j 0]?=some N∧j/2^(a.d-N.dpt)=N.pfx
 from_:∀(i:Nat) (N:Nd) (j:Nat),a.Ns[i]?=some N→j<2^a.d→j/2^(a.d-N.dpt)=N.pfx→a.l.getD j 0=i
 len:a.l.length=2^a.d
 split:∀(i:Nat) (N:Nd),a.Ns[i]?=some N→N.ph.busy=true→N.kind=3→N.dpt<a.d
 cop:∀c,a.cop=some c→c.2.length=2^(a.d+1)∧c.1≤a.l.length∧∀j,j<2*c.1→c.2.getD j 0=a.l.getD (j/2) 0
theorem pos2 (e:Nat):0<2^e:=Nat.pow_pos (by decide)
theorem top_div {h d:Nat}(hd:p≤d)(hd5:d≤5):topOf h d/2^(d-p)=topOf h p:=by
 unfold topOf;rw[Nat.div_div_eq_div_mul,←Nat.pow_add];congr 2;omega
theorem DirOk.at_ {a:Pool}(h:DirOk a)(h64:hash<18446744073709551616)(h5:a.d≤5):∃N,a.Ns[a.l.getD (topOf hash a.d) 0]?=some N∧topOf hash N.dpt=N.pfx:=by
 obtain⟨N,h1,h2⟩:=h.to_ (topOf hash a.d) (topOf_lt h64 (by omega));exact⟨N,h1,by rw[←h2,top_div (h.fit _ _ h1).1 h5]⟩
theorem DirOk.is_ {a:Pool}(h:DirOk a){i:Nat}(h64:hash<18446744073709551616)(h5:a.d≤5)(hN:a.Ns[i]?=some N)(ht:topOf hash N.dpt=N.pfx):a.l.getD (topOf hash a.d) 0=i:=
 h.from_ i N _ hN (topOf_lt h64 (by omega)) (by rw[top_div (h.fit _ _ hN).1 h5];exact ht)
theorem sub_len:∀(l l':List Nat),l.Nodup→(∀x∈l,x∈l')→l.length≤l'.length
 | [],_,_,_=>Nat.zero_le _
 |x::l,l',hn,hs=>by
  rw[List.nodup_cons]at hn;have hx:=hs x (by simp);have h1:=sub_len l (l'.erase x) hn.2 (fun y hy=>(List.mem_erase_of_ne (fun e=>hn.1 (by rw[←e];exact hy))).2 (hs y (by simp[hy])));rw[List.length_erase_of_mem hx]at h1;have:0<l'.length:=List.length_pos_of_mem hx;simp only[List.length_cons];omega
theorem DirOk.nodes {a:Pool}(h:DirOk a):a.Ns.length≤2^a.d:=by
 have:=sub_len (List.range a.Ns.length) ((List.range (2^a.d)).map fun j=>a.l.getD j 0) List.nodup_range (fun i hi=>by
  rw[List.mem_range]at hi;obtain⟨N,hN⟩:∃N,a.Ns[i]?=some N:=⟨_,List.getElem?_eq_getElem hi⟩;obtain⟨h1,h2⟩:=h.fit i N hN
  refine List.mem_map.2 ⟨N.pfx*2^(a.d-N.dpt),List.mem_range.2 ?_,h.from_ i N _ hN ?_ (Nat.mul_div_cancel _ (pos2 _))⟩<;>
  ·have h3:N.pfx*2^(a.d-N.dpt)<2^N.dpt*2^(a.d-N.dpt):=Nat.mul_lt_mul_of_pos_right h2 (pos2 _);rw[←Nat.pow_add,Nat.add_sub_cancel' h1]at h3
   exact h3)
 simpa using this
theorem dblN_at (lf:List Nat)(i id j:Nat)(hi:2*i+1<lf.length):(dblN lf i id 2).getD j 0=if j/2=i then id else lf.getD j 0:=by
 show(((lf.set (2*i+0) id)).set (2*i+1) id).getD j 0=_;rw[List.getD_eq_getElem?_getD,List.getElem?_set,List.getElem?_set,List.length_set];by_cases h1:2*i+1=j
 ·rw[if_pos h1,if_pos hi,if_pos (by omega)];rfl
 ·rw[if_neg h1];by_cases h2:2*i+0=j
  ·rw[if_pos h2,if_pos (by omega),if_pos (by omega)];rfl
  ·rw[if_neg h2,if_neg (by omega),←List.getD_eq_getElem?_getD]
theorem DirOk.alike {a:Pool}(h:DirOk a){N':Nd}(hN:a.Ns[id]?=some N)(h1:N'.pfx=N.pfx)(h2:N'.dpt=N.dpt)(h3:N'.ph.busy=true→N'.kind=3→N.dpt<a.d):DirOk {a with Ns:=a.Ns.set id N'}:=by
 have hid:=get_lt hN
 have hset:∀(i:Nat) (X:Nd),(a.Ns.set id N')[i]?=some X→∃Y,a.Ns[i]?=some Y∧X.pfx=Y.pfx∧X.dpt=Y.dpt∧(X=Y∨X=N'∧Y=N):=fun i X hX=>by
  rw[List.getElem?_set]at hX;by_cases hi:id=i
  ·subst hi;rw[if_pos rfl,if_pos hid]at hX;cases hX;exact⟨N,hN,h1,h2,.inr ⟨rfl,rfl⟩⟩
  ·rw[if_neg hi]at hX;exact⟨X,hX,rfl,rfl,.inl rfl⟩
 have hset2:∀(i:Nat) (Y:Nd),a.Ns[i]?=some Y→∃X,(a.Ns.set id N')[i]?=some X∧X.pfx=Y.pfx∧X.dpt=Y.dpt:=fun i Y hY=>by
  rw[List.getElem?_set];by_cases hi:id=i
  ·subst hi;rw[hN]at hY;cases hY;exact⟨N',by rw[if_pos rfl,if_pos hid],h1,h2⟩
  ·exact⟨Y,by rw[if_neg hi];exact hY,rfl,rfl⟩
 refine⟨fun i X hX=> ?_,fun j hj=> ?_,fun i X j hX hj hp=> ?_,h.len,fun i X hX hb hk=> ?_,h.cop⟩
 ·obtain⟨Y,g1,g2,g3,_⟩:=hset i X hX;rw[g2,g3];exact h.fit i Y g1
 ·obtain⟨Y,g1,g2⟩:=h.to_ j hj;obtain⟨X,g3,g4,g5⟩:=hset2 _ Y g1;exact⟨X,g3,by rw[g4,g5];exact g2⟩
 ·obtain⟨Y,g1,g2,g3,_⟩:=hset i X hX;rw[g2,g3]at hp;exact h.from_ i Y j g1 hj hp
 ·obtain⟨Y,g1,g2,g3,g4⟩:=hset i X hX;rcases g4 with rfl|⟨rfl,rfl⟩
  ·exact h.split i X g1 hb hk
  ·rw[g3];exact h3 hb hk
theorem DirOk.step {H:Nat→Nat}{a a':Pool}(h:DirOk a)(hs:a.step H id a'):DirOk a':=by
 rcases hs with⟨N,hN,hb,_,_,rfl⟩|⟨hN,rfl,c,hc,hl,rfl⟩
 ·have hL:=step_like N;exact h.alike hN hL.pfx hL.dpt (fun _ hk=>h.split id N hN hb (by rw[←hL.kind];exact hk))
 ·refine⟨h.fit,h.to_,h.from_,h.len,h.split,fun c' hc'=> ?_⟩;obtain⟨h1,h2,h3⟩:=h.cop c hc;have hc2:c'=(c.1+1,dblN c.2 c.1 (a.l.getD c.1 0) 2):=(Option.some.inj hc').symm;rw[hc2];have hlen:=h.len;have hpw:2^(a.d+1)=2^a.d*2:=Nat.pow_succ ..;refine⟨by simp only;rw[dblN_length];exact h1,by simp only;omega,fun j hj=> ?_⟩;simp only at hj⊢;rw[dblN_at _ _ _ _ (by omega)];by_cases hj2:j/2=c.1
  ·rw[if_pos hj2,hj2]
  ·rw[if_neg hj2];exact h3 j (by omega)
theorem DirOk.double {a:Pool}(h:DirOk a)(_:a.cop=none):DirOk {a with cop:=some (0,List.replicate (2^(a.d+1)) 0)}:=
 ⟨h.fit,h.to_,h.from_,h.len,h.split,fun c hcc=>by
  have hc2:c=(0,List.replicate (2^(a.d+1)) 0):=(Option.some.inj hcc).symm;rw[hc2]
  exact⟨by simp,Nat.zero_le _,fun j hj=>by simp at hj⟩⟩
theorem DirOk.take {a:Pool}(h:DirOk a){c:Nat×List Nat}(hc:a.cop=some c)(hl:c.1=a.l.length):DirOk {a with d:=a.d+1,l:=c.2,cop:=none}:=by
 obtain⟨h1,h2,h3⟩:=h.cop c hc;have hlen:=h.len;have hpw:2^(a.d+1)=2^a.d*2:=Nat.pow_succ ..
 have hdv:∀j p,p≤a.d→j/2^(a.d+1-p)=j/2/2^(a.d-p):=fun j p hp=>by
  rw[Nat.div_div_eq_div_mul,show a.d+1-p=(a.d-p)+1 by omega,Nat.pow_succ,Nat.mul_comm]
 refine⟨fun i N hN=>⟨Nat.le_succ_of_le (h.fit i N hN).1,(h.fit i N hN).2⟩,fun j hj=> ?_,fun i N j hN hj hp=> ?_,h1,fun i N hN hb hk=>Nat.lt_succ_of_lt (h.split i N hN hb hk),fun c hc=>by cases hc⟩
 ·show∃N,a.Ns[c.2.getD j 0]?=some N∧j/2^(a.d+1-N.dpt)=N.pfx;have hj':j<2^(a.d+1):=hj;obtain⟨N,g1,g2⟩:=h.to_ (j/2) (by omega);rw[h3 j (by omega)];exact⟨N,g1,by rw[hdv j _ (h.fit _ _ g1).1];exact g2⟩
 ·show c.2.getD j 0=i;have hj':j<2^(a.d+1):=hj;have hp':j/2^(a.d+1-N.dpt)=N.pfx:=hp;rw[h3 j (by omega)];rw[hdv j _ (h.fit _ _ hN).1]at hp';exact h.from_ i N _ hN (by omega) hp'
def Pool.split (a:Pool)(id:Nat)(N0 N1:Nd):Pool:=
 let fr:=fromOf N1.pfx N1.dpt a.d
 let n:=2^(a.d-N1.dpt)
 let l':=setN a.l fr a.Ns.length n
 {Ns:=a.Ns.set id N0++[N1],d:=a.d,l:=l',cop:=a.cop.map fun c=>(c.1,dblL c.2 l' fr (min (fr+n) c.1-fr))}
end
section
variable {F' S : List Nat} {x' : Mtr}
structure CPl where
 mb:Nat
 sb:Nat
 qb:Nat
 rb:Nat
 jb:Nat
 A:Adr
 v:Value
 K:Nat
 M:Nat
 I:Nat
 m:Int
structure CSt where
 a:Pool
 ids:List Nat
 len:Nat
 b:Int
 x:Mtr
def Adr.val (A:Adr)(id:Nat):Value:= .iface (A.jt id) (.pointer (some (A.ja id)))
def CPl.s (C:CPl):SP:=⟨C.sb,C.qb,C.rb,C.jb,(C.K:Int),C.A.val⟩
def copVal (A:Adr)(c:Option (Nat×List Nat)):Value:= .pointer (if c.isSome then some ⟨A.cb,0,none⟩else none)
def cmp (C:CPl)(st:CSt):MP:=⟨C.mb,154,[.int .i64 (C.K:Int),.int .i64 (C.M:Int),.int .i64 (C.I:Int)],[C.v,.pointer (some ⟨C.A.db,0,none⟩),copVal C.A st.a.cop,.pointer (some ⟨C.sb,0,none⟩),.int .i64 (st.len:Int)],3,C.m⟩
def CPl.foot (C:CPl)(F:List Nat):List Nat:=C.mb::(C.s.blocks++(F++C.v.ownBlock.toList))
def nodeRow (A:Adr)(n:Nat):List Value:=ptrs ((List.range n).map A.nb)
structure CoreF (W0:World)(E:Nat→Addr)(H:Nat→Nat)(C:CPl)(w0:World)(G0:List Nat)(w:World)(F:List Nat)(st:CSt):Prop where
 sch:SchSt W0 E (cmp C st) (PoolAt W0 C.mb H C.A) C.s w F w st.b st.ids st.a F st.x
 row:w.ownsRow W0.heap.size 142 1 C.v st.a.Ns.length (nodeRow C.A st.a.Ns.length)
 rap:RowAp (cmp C st) C.s F C.v
 pos:1≤st.a.Ns.length
 kk:1≤C.K∧C.K≤64
 mm:1≤C.M∧C.M≤192
 le0:W0.heap.size≤w0.heap.size
 sub:∀q∈C.foot F,q∈G0∨w0.heap.size≤q
 mod:Mod G0 w0 w
section
variable {W0 : World} {E : Nat → Addr} {H : Nat → Nat} {C : CPl} {w0 : World} {G0 : List Nat} {w w' : World} {F : List Nat} {st : CSt}
theorem CoreF.hp (h:CoreF W0 E H C w0 G0 w F st):PoolOk W0 E (cmp C st) C.A.jt C.A.ja (PoolAt W0 C.mb H C.A) Pool.can Pool.left (Pool.step H):=pool_ok (P:=cmp C st) C.A h.sch.mb0
theorem mem_foot {q:Nat}:q∈C.foot F↔q=C.mb∨q∈C.s.blocks∨q∈F∨C.v.ownBlock=some q:=by
 unfold CPl.foot;simp[eq_comm]
theorem CoreF.lts (h:CoreF W0 E H C w0 G0 w F st):∀q∈C.foot F,q<w.heap.size:=by
 intro q hq;have hl:=h.sch.lts h.hp;rcases mem_foot.1 hq with rfl|h1|h1|h1
 ·exact h.sch.met.lt
 ·exact hl q (by simp[h1])
 ·exact hl q (by simp[h1])
 ·exact(h.row.lt q h1).2
theorem CoreF.lows (h:CoreF W0 E H C w0 G0 w F st):∀q∈C.foot F,W0.heap.size≤q:=by
 intro q hq;rcases mem_foot.1 hq with rfl|h1|h1|h1
 ·exact h.sch.mb0
 ·exact(h.sch.apart q h1).2.2
 ·exact(h.hp.lt h.sch.pool q h1).2
 ·exact(h.row.lt q h1).1
theorem CoreF.upd2 (h:CoreF W0 E H C w0 G0 w F st)(A':Adr)(v':Value)(st':CSt)(hm:Mod S w w')(hS:∀q∈S,q∈C.foot F)(hsch:SchAt w' C.sb C.qb C.rb C.jb (C.K:Int) st'.b A'.val st'.ids)(hpool:PoolAt W0 C.mb H A' w' F' st'.a)(hmet:MetP w' (cmp {C with A:=A',v:=v'} st') st'.x)(hrow:w'.ownsRow W0.heap.size 142 1 v' st'.a.Ns.length (nodeRow A' st'.a.Ns.length))(hpos:1≤st'.a.Ns.length)(hF:∀q∈F',q∈F∨((q∈G0∨w0.heap.size≤q)∧q∉C.foot F))(hg:∀g,v'.ownBlock=some g→(C.v.ownBlock=some g∨w.heap.size≤g)∧(w.heap.size≤g→g∉F')):
  CoreF W0 E H {C with A:=A',v:=v'} w0 G0 w' F' st':=by
 have hl:=h.lts;have hbl:∀q∈C.s.blocks,q∈C.foot F:=fun q hq=>mem_foot.2 (.inr (.inl hq));refine⟨SchSt.start (P:=cmp {C with A:=A',v:=v'} st') (s:=({C with A:=A',v:=v'}:CPl).s) hsch hpool hmet (h.sch.env.mod hm (fun q hq=>h.lows q (hS q hq))) (fun q hq=> ?_) h.sch.mb0,hrow,fun g hgg hq=> ?_,hpos,h.kk,h.mm,h.le0,fun q hq=> ?_, ?_⟩
 ·have hq':q∈C.s.blocks:=hq;have ha:=h.sch.apart q hq';refine⟨fun hqF=> ?_,ha.2⟩;rcases hF q hqF with h1|h1
  ·exact ha.1 h1
  ·exact h1.2 (hbl q hq')
 ·obtain⟨h1,h2⟩:=hg g hgg
  have hq':g=C.mb∨g∈C.s.blocks∨g∈F':=by
   rcases List.mem_cons.1 hq with h3|h3
   ·exact .inl h3
   ·exact .inr (List.mem_append.1 h3)
  have hml:=h.sch.met.lt;have hml':C.mb<w.heap.size:=hml;rcases h1 with h1|h1
  ·have hr:=h.rap g h1;simp only[List.mem_cons,List.mem_append,not_or]at hr;rcases hq' with h3|h3|h3
   ·exact hr.1 h3
   ·exact hr.2.1 h3
   ·rcases hF g h3 with h4|h4
    ·exact hr.2.2 h4
    ·exact h4.2 (mem_foot.2 (.inr (.inr (.inr h1))))
  ·rcases hq' with h3|h3|h3
   ·omega
   ·have:=hl g (hbl g h3);omega
   ·exact h2 h1 h3
 ·have hz:=h.mod.size;rcases mem_foot.1 hq with h1|h1|h1|h1
  ·exact h.sub q (mem_foot.2 (.inl h1))
  ·exact h.sub q (mem_foot.2 (.inr (.inl h1)))
  ·rcases hF q h1 with h2|h2
   ·exact h.sub q (mem_foot.2 (.inr (.inr (.inl h2))))
   ·exact h2.1
  ·rcases(hg q h1).1 with h2|h2
   ·exact h.sub q (mem_foot.2 (.inr (.inr (.inr h2))))
   ·right;omega
 ·exact h.mod.trans hm (fun _ hh _=>hh) (fun q hq hlt=>by
   rcases h.sub q (hS q hq)with h1|h1
   ·exact h1
   ·omega)
theorem CoreF.upd (h:CoreF W0 E H C w0 G0 w F st)(A':Adr)(v':Value)(st':CSt)(hm:Mod S w w')(hS:∀q∈S,q∈C.foot F)(hsch:SchAt w' C.sb C.qb C.rb C.jb (C.K:Int) st'.b A'.val st'.ids)(hpool:PoolAt W0 C.mb H A' w' F' st'.a)(hmet:MetP w' (cmp {C with A:=A',v:=v'} st') st'.x)(hrow:w'.ownsRow W0.heap.size 142 1 v' st'.a.Ns.length (nodeRow A' st'.a.Ns.length))(hpos:1≤st'.a.Ns.length)(hF:∀q∈F',q∈F∨w.heap.size≤q)(hg:∀g,v'.ownBlock=some g→(C.v.ownBlock=some g∨w.heap.size≤g)∧(w.heap.size≤g→g∉F')):
  CoreF W0 E H {C with A:=A',v:=v'} w0 G0 w' F' st':=
 h.upd2 A' v' st' hm hS hsch hpool hmet hrow hpos (fun q hq=>(hF q hq).imp (fun hh=>hh) (fun hh=>⟨.inr (Nat.le_trans h.mod.size hh),fun hf=>by have:=h.lts q hf;omega⟩)) hg
theorem core_row (h:CoreF W0 E H C w0 G0 w F st)(hm:Mod S w w')(hS:∀q∈S,q=C.mb∨q∈C.s.blocks∨q∈F):w'.ownsRow W0.heap.size 142 1 C.v st.a.Ns.length (nodeRow C.A st.a.Ns.length):=
 own_far h.row hm (fun k hk hkS=>h.rap k hk (by
  show k∈C.mb::(C.s.blocks++F)
  rcases hS k hkS with h1|h1|h1<;>simp[h1]))
theorem rap_keep (h:CoreF W0 E H C w0 G0 w F st):∀g,C.v.ownBlock=some g→(C.v.ownBlock=some g∨w.heap.size≤g)∧(w.heap.size≤g→g∉F):=fun g hg=>⟨.inl hg,fun hh=>by have:=(h.row.lt g hg).2;omega⟩
theorem CoreF.below (h:CoreF W0 E H C w0 G0 w F st)(hb:Below w.heap.size w w'):CoreF W0 E H C w0 G0 w' F st:=
 h.upd C.A C.v st (S:=[]) (Mod.of_below hb []) (by simp) (h.sch.sch.mod (Mod.of_below hb []) (by simp)) (h.hp.stab h.sch.pool (Mod.of_below hb []) (by simp)) (h.sch.met.below hb) (core_row h (Mod.of_below hb []) (by simp)) h.pos (fun _ hq=> .inl hq) (rap_keep h)
theorem CoreF.met (h:CoreF W0 E H C w0 G0 w F st)(hM:MetP w' (cmp C st) x')(hm:Mod [C.mb] w w'):CoreF W0 E H C w0 G0 w' F {st with x:=x'}:=
 h.upd C.A C.v {st with x:=x'} hm (fun q hq=>mem_foot.2 (.inl (by simpa using hq))) (h.sch.sch.mod hm (fun q hq hqS=>(h.sch.apart q hq).2.1 (List.mem_singleton.1 hqS))) (h.hp.stab h.sch.pool hm (fun q hq hqS=>h.hp.mb h.sch.pool (by show C.mb∈F;rw[←List.mem_singleton.1 hqS];exact hq))) hM (core_row (st:=st) h hm (fun q hq=> .inl (List.mem_singleton.1 hq))) h.pos (fun _ hq=> .inl hq) (rap_keep h)
theorem CoreF.cells (h:CoreF W0 E H C w0 G0 w F st):w.cell? ⟨C.mb,0,none⟩=some (.int .i64 (C.K:Int))∧w.cell? ⟨C.mb,1,none⟩=some (.int .i64 (C.M:Int))∧w.cell? ⟨C.mb,11,none⟩=some C.v∧w.cell? ⟨C.mb,12,none⟩=some (.pointer (some ⟨C.A.db,0,none⟩))∧w.cell? ⟨C.mb,13,none⟩=some (copVal C.A st.a.cop)∧w.cell? ⟨C.mb,14,none⟩=some (.pointer (some ⟨C.sb,0,none⟩))∧w.cell? ⟨C.mb,15,none⟩=some (.int .i64 (st.len:Int)):=
 ⟨(Met.blk h.sch.met).cell 0,(Met.blk h.sch.met).cell 1,(Met.blk h.sch.met).cell 11,(Met.blk h.sch.met).cell 12,(Met.blk h.sch.met).cell 13,(Met.blk h.sch.met).cell 14,(Met.blk h.sch.met).cell 15⟩
theorem CoreF.frozen (h:CoreF W0 E H C w0 G0 w F st)(i:Nat):w.frozen? ⟨C.mb,i,none⟩=false:=(Met.blk h.sch.met).frozen i
theorem CoreF.rowAt (h:CoreF W0 E H C w0 G0 w F st):∃vb cap,C.v= .slice (some ⟨vb,0,none⟩) st.a.Ns.length cap∧∀id,id<st.a.Ns.length→w.cell? ⟨vb,id,none⟩=some (.pointer (some ⟨C.A.nb id,0,none⟩)):=by
 have hr:=h.row;obtain⟨A,c,hv⟩:=own_form hr;rw[hv]at hr;obtain⟨rb,rfl,_,hra,_⟩:=RowAt.of_own hr (by have:=h.pos;omega);exact⟨rb,c,hv,fun id hid=>hra.at_ id _ (by simp[hid])⟩
theorem CoreF.node (h:CoreF W0 E H C w0 G0 w F st){id:Nat}{N:Nd}(hN:st.a.Ns[id]?=some N):∃Fi,NdAt w (C.A.nb id) Fi N∧NOk H N∧C.mb∉Fi∧(∀q∈Fi,W0.heap.size≤q)∧(∀q∈Fi,q∈F)∧
  ∀(w':World) (F' S:List Nat) (N':Nd) (x':Mtr),NdAt w' (C.A.nb id) F' N'→NOk H N'→(∀q∈F',q∈Fi∨w.heap.size≤q)→MetP w' (cmp C st) x'→Mod S w w'→(∀q∈S,q=C.mb∨q∈Fi)→∃F2,CoreF W0 E H C w0 G0 w' F2 {st with a:={st.a with Ns:=st.a.Ns.set id N'},x:=x'}:=by
 obtain⟨Fs,hF,hp⟩:=h.sch.pool;obtain⟨hA,hO⟩:=hp.nds id N hN;have hid:=get_lt hN;have hin:∀q∈Fs id,q∈F:=fun q hq=>hF▸mem_footP.2 (.inl ⟨id,hid,hq⟩);refine⟨Fs id,hA,hO,fun hq=>hp.mb (mem_footP.2 (.inl ⟨id,hid,hq⟩)),fun q hq=>hp.low q (mem_footP.2 (.inl ⟨id,hid,hq⟩)),hin,fun w' F' S N' x' hA' hO' hF' hM hm hS=> ?_⟩;have hP:=hp.node hN hA' hO' hF' hm hS h.sch.env.size h.sch.met.lt;have hS':∀q∈S,q=C.mb∨q∈C.s.blocks∨q∈F:=fun q hq=>(hS q hq).imp (fun hh=>hh) (fun hh=> .inr (hin q hh));have hlen:(st.a.Ns.set id N').length=st.a.Ns.length:=List.length_set;refine⟨_,h.upd C.A C.v {st with a:={st.a with Ns:=st.a.Ns.set id N'},x:=x'} hm (fun q hq=> ?_) (h.sch.sch.mod hm (fun q hq hqS=> ?_)) ⟨_,rfl,hP⟩ hM ?_ ?_ (fun q hq=> ?_) (fun g hg=>⟨.inl hg,fun hh=>by have:=(h.row.lt g hg).2;omega⟩)⟩
 ·rcases hS' q hq with h1|h1|h1
  ·exact mem_foot.2 (.inl h1)
  ·exact mem_foot.2 (.inr (.inl h1))
  ·exact mem_foot.2 (.inr (.inr (.inl h1)))
 ·have ha:=h.sch.apart q hq;rcases hS q hqS with h1|h1
  ·exact ha.2.1 h1
  ·exact ha.1 (hin q h1)
 ·show w'.ownsRow W0.heap.size 142 1 C.v (st.a.Ns.set id N').length (nodeRow C.A (st.a.Ns.set id N').length);rw[hlen];exact core_row h hm hS'
 ·show 1≤(st.a.Ns.set id N').length;rw[hlen];exact h.pos
 ·rcases mem_footP.1 hq with⟨i,hi,hq2⟩|hq2
  ·have hi':i<st.a.Ns.length:=by simpa using hi
   by_cases e1:i=id
   ·simp only[if_pos e1]at hq2;rcases hF' q hq2 with h6|h6
    ·exact .inl (hin q h6)
    ·exact .inr h6
   ·simp only[if_neg e1]at hq2;exact .inl (hF▸mem_footP.2 (.inl ⟨i,hi',hq2⟩))
  ·exact .inl (hF▸mem_footP.2 (.inr hq2))
theorem CoreF.again (h:CoreF W0 E H C w0 G0 w F st):CoreF W0 E H C w (C.foot F) w F st:=⟨h.sch,h.row,h.rap,h.pos,h.kk,h.mm,h.sch.env.size,fun _ hq=> .inl hq,Mod.refl _ _⟩
end
end
section
variable {W0 w w0 : World} {E : Nat → Addr} {H : Nat → Nat} {C : CPl} {F G0 : List Nat} {st : CSt}
def coreP (b:Nat):Value:= .pointer (some ⟨b,0,none⟩)
theorem core_Len (h:CoreF W0 E H C w0 G0 w F st):Calls Tryz.prog 63 #[coreP C.mb] w fun e w'=>e= .returned (.int .i64 (st.len:Int))∧w=w':=by
 have HC:=qd h;obtain⟨c0,c1,c11,c12,c13,c14,c15⟩:=HC.out.cells;clear h;unfold coreP;go_in;go_wp2;go_ret;exact⟨rfl,rfl⟩
theorem core_Nodes (h:CoreF W0 E H C w0 G0 w F st):Calls Tryz.prog 64 #[coreP C.mb] w fun e w'=>e= .returned (.int .i64 (st.a.Ns.length:Int))∧w=w':=by
 have HC:=qd h;obtain⟨c0,c1,c11,c12,c13,c14,c15⟩:=HC.out.cells;obtain⟨vb,cap,hv,_⟩:=h.rowAt;rw[hv]at c11;generalize st.a.Ns.length=n at*;clear h hv HC;unfold coreP;go_in;go_wp2;go_ret;exact⟨rfl,rfl⟩
end
section
variable {S l' : List Nat} {cop' : Option (Nat × List Nat)}
section
variable {W0 : World} {E : Nat → Addr} {H : Nat → Nat} {C : CPl} {w0 : World} {G0 : List Nat} {w w' : World} {F : List Nat} {st : CSt}
theorem CoreF.sched (h:CoreF W0 E H C w0 G0 w F st){ids':List Nat}(hs:SchAt w' C.sb C.qb C.rb C.jb (C.K:Int) st.b C.A.val ids')(hm:Mod S w w')(hS:∀q∈S,q∈C.s.blocks):CoreF W0 E H C w0 G0 w' F {st with ids:=ids'}:=by
 have hb:∀q∈S,q∉F∧q≠C.mb∧W0.heap.size≤q:=fun q hq=>h.sch.apart q (hS q hq);exact h.upd C.A C.v {st with ids:=ids'} hm (fun q hq=>mem_foot.2 (.inr (.inl (hS q hq)))) hs (h.hp.stab h.sch.pool hm (fun q hq hqS=>(hb q hqS).1 hq)) (h.sch.met.mod hm (fun hq=>(hb _ hq).2.1 rfl)) (core_row (st:=st) h hm (fun q hq=> .inr (.inl (hS q hq)))) h.pos (fun _ hq=> .inl hq) (rap_keep (st:=st) h)
end
end
end Go.Proofs.YtfbljmcjadfkoaaGreatDoor
