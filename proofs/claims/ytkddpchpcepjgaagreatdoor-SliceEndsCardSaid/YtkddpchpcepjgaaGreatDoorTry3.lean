/- Package twin: what is there behind all (End). No statement of the claim. -/
import Derived.Test.YtkddpchpcepjgaaGreatDoorPlE
namespace Go.Proofs.YtkddpchpcepjgaaGreatDoor
set_option maxRecDepth 100000
set_option maxHeartbeats 8000000
open Go.RowKit cu uq J8
section
variable {W0 w : World} {E : Nat -> Addr} {H : Nat -> Nat} {I K M b k v : Nat} {G : List Nat} {s : St} {R : Nat -> Option Nat} {L : List aB} {P : PL}
theorem uD:∀{ks L:List Nat},ks.Nodup->(∀k∈ks,k∈L)->ks.length<=L.length
 | [],_,_,_=>Q4 _
 |k::ks,L,hn,hs=>by
  rw[qa]at hn;have hk:=hs k (by simp);have:=uD (ks:=ks) (L:=L.erase k) hn.2 (λx hx=>(List.mem_erase_of_ne (λe=>hn.1 (by rw[<-e];exact hx))).2 (hs x (by simp[hx])));rw[K1 hk]at this;have:=List.length_pos_of_mem hk;rw[ZS];omega
theorem gK.count (h:gK W0 E H K M I b G w s){ks:List Nat}(hn:ks.Nodup)(hs:∀k∈ks,(s.R k).isSome=true):ks.length<=s.n:=by
 obtain⟨its,⟨a,ids,fK,h1,hf,hl⟩,_⟩:=h
 have:=uD (L:=a.ents.map ay.key) hn (λk hk=>by
  have h2:=hs k hk;rw[<-hf]at h2;unfold sQ at h2
  cases hlk:look a.ents k with
  |none=>rw[hlk]at h2;cases h2
  |some e=>
   obtain⟨h3,h4⟩:=qj hlk
   exact h4▸QQ h3)
 rw[qS]at this;omega
theorem IB {o o':Option Nat}(h:∀u,o=some u↔o'=some u):o=o':=by
 cases o with
 |none=>
  cases o' with
  |none=>rfl
  |some u=>exact absurd ((h u).2 rfl) (by simp)
 |some u=>exact((h u).1 rfl).symm
theorem Nb {t:PL}(ht:gN t)(k v x:Nat):jo (pE t k v) x=if x=k then some v else jo t x:=by
 refine IB λu=> ?_;rw[iK (CR ht k v),abK ht];by_cases hx:x=k
 ·subst hx;rw[if_pos rfl];constructor
  ·rintro(h|⟨_,h⟩)
   ·injection h with _ h;rw[h]
   ·exact absurd rfl h
  ·intro h
   injection h with h
   exact .inl (by rw[h])
 ·rw[if_neg hx,iK ht];constructor
  ·rintro(h|⟨h,_⟩)
   ·injection h with h;exact absurd h hx
   ·exact h
  ·exact λh=> .inr ⟨h,hx⟩
theorem qz:∀(t pre:List aB) (o:aB),o∈kP pre t->o∈t/\cZ o.kind=true
 | [],_,o,h=>by cases h
 |x::t,pre,o,h=>by
  unfold kP at h;split at h
  ·next hc=>
   rcases zt.1 h with rfl|h
   ·exact⟨by simp,(Bool.and_eq_true_iff.1 hc).1⟩
   ·exact⟨by simp[(qz t _ o h).1],(qz t _ o h).2⟩
  ·exact⟨by simp[(qz t _ o h).1],(qz t _ o h).2⟩
theorem VU {l:List aB}{o:aB}(h:o∈firsts l):o∈l/\cZ o.kind=true:=qz l [] o h
theorem VW {l:List aB}{o:aB}(h:o∈l)(hk:cZ o.kind=true):∃x∈firsts l,x.key=o.key:=by
 have:=QW l o;rw[QR.2 ⟨o,h,by unfold fV;simp[hk]⟩]at this;obtain⟨x,hx,he⟩:=QR.1 this.symm;exact⟨x,hx,by simpa using he⟩
theorem Y6 {o:aB}(h:((iN M I s o).R k).isSome=true):(s.R k).isSome=true\/(cZ o.kind=true/\o.key.toNat=k):=by
 unfold iN at h;split at h
 ·next hk=>
  simp only at h;unfold CF at h;split at h
  ·exact .inl h
  ·simp only at h;split at h
   ·next e=>exact .inr ⟨by rw[hk];rfl,e.symm⟩
   ·exact .inl h
 split at h
 ·simp only at h;unfold rM at h;split at h
  ·cases h
  ·exact .inl h
 split at h
 ·cases h
 split at h
 ·split at h<;>exact .inl h
 split at h<;>exact .inl h
theorem GK:∀{l:List aB} {s:St},((eG M I s l).R k).isSome=true->(s.R k).isSome=true\/∃o∈l,cZ o.kind=true/\o.key.toNat=k
 | [],_,h=> .inl h
 |o::l,s,h=>by
  rcases GK (l:=l) (s:=iN M I s o) h with h|⟨x,hx,h⟩
  ·rcases Y6 h with h|h
   ·exact .inl h
   ·exact .inr ⟨o,by simp,h⟩
  ·exact .inr ⟨x,by simp[hx],h⟩
structure mU (R:Nat->Option Nat)(L:List aB)(P:PL):Prop where
 qO:gN P
 get:∀k,jo P k=if L.any (λo=>o.key.toNat==k)=true then R k else none
theorem mU.nil (R:Nat->Option Nat):mU R [] []:=⟨List.Pairwise.nil,λk=>rfl⟩
theorem mU.some_ (h:mU R L P){o:aB}(hv:R o.key.toNat=some v):mU R (L++[o]) (pE P o.key.toNat v):=by
 refine⟨CR h.qO _ _,λk=> ?_⟩;rw[Nb h.qO,h.get,kq];by_cases hk:k=o.key.toNat
 ·rw[if_pos hk,if_pos (by simp[hk]),hk,hv]
 ·rw[if_neg hk]
  have:([o].any λo=>o.key.toNat==k)=false:=by simp;omega
  rw[this,Bool.or_false]
theorem mU.none_ (h:mU R L P){o:aB}(hv:R o.key.toNat=none):mU R (L++[o]) P:=by
 refine⟨h.qO,λk=> ?_⟩;rw[h.get,kq];by_cases hk:k=o.key.toNat
 ·subst hk;rw[hv];simp
 ·have:([o].any λo=>o.key.toNat==k)=false:=by simp;omega
  rw[this,Bool.or_false]
theorem uF {l:PL}(h:gN l):(l.map Prod.fst).Nodup:=by
 unfold List.Nodup;rw[List.pairwise_map]
 exact h.imp λh=>by omega
theorem mU.IC (h:mU R L P)(hk:k∈P.map Prod.fst):(R k).isSome=true:=by
 obtain⟨p,hp,rfl⟩:=Z3.1 hk;have:=(iK h.qO).2 (show(p.1,p.2)∈P from hp);rw[h.get]at this;split at this
 ·rw[this];rfl
 ·cases this
theorem mU.room (hD:gK W0 E H K M I b G w s)(h:mU s.R L P)(hv:s.R k=some v):(qy P k=false->P.length<M)/\P.length<=192:=by
 have hl:=hD.least;have h1:=hD.count (uF h.qO) (λk hk=>h.IC hk);rw[qS]at h1;refine⟨λhp=> ?_,by omega⟩;rw[FD h.qO]at hp
 have hnk:k∉P.map Prod.fst:=λhm=>by
  obtain⟨p,hp2,rfl⟩:=Z3.1 hm;rw[(iK h.qO).2 (show(p.1,p.2)∈P from hp2)]at hp;cases hp
 have h2:=hD.count (ks:=k::P.map Prod.fst) (qa.2 ⟨hnk,uF h.qO⟩) (λx hx=>by
  rcases zt.1 hx with rfl|hx
  ·rw[hv];rfl
  ·exact h.IC hx)
 rw[ZS,qS]at h2;omega
theorem mU.end_ {l:List aB}(h:mU (eG M I ko l).R (firsts l) P)(k:Nat):jo P k=(eG M I ko l).R k:=by
 rw[h.get];split
 ·rfl
 ·next hc=>
  cases hr:(eG M I ko l).R k with
  |none=>rfl
  |some v=>
   rcases GK (k:=k) (l:=l) (s:=ko) (by rw[hr];rfl)with hz|⟨o,ho,hk,rfl⟩
   ·cases hz
   ·obtain⟨x,hx,he⟩:=VW ho hk;exact absurd (QR.2 ⟨x,hx,by rw[he];simp⟩) hc
end
section
variable {I M : Nat} {s : St} {o : aB} {a : uw}
def xE (M I:Nat):St->List aB->List uw
 |_,[]=> []
 |s,o::l=>kr M I s o::xE M I (iN M I s o) l
theorem abQ (M I:Nat)(s:St)(o:aB):(kr M I s o).err<=16:=by
 unfold kr;simp only
 repeat' split
 all_goals decide
theorem jm.kind (h:jm M I s o a):a.kind=o.kind:=by
 unfold jm at h;split at h
 ·next hk=>rw[h.1,hk]
 ·rw[h];rfl
theorem jm.err (h:jm M I s o a):a.err=(kr M I s o).err:=by
 unfold jm at h;split at h
 ·exact h.2.2.2.1
 ·rw[h]
theorem jm.det (h:jm M I s o a)(hk:a.kind≠7):a=kr M I s o:=by
 have:=h.kind;unfold jm at h;rw[if_neg (by rw[<-this];exact hk)]at h;exact h
theorem jS.at:∀{s:St} {l:List aB} {us:List uw} {i:Nat} {a:uw},jS M I s l us->us[i]?=some a->∃d,(xE M I s l)[i]?=some d/\a.kind=d.kind/\a.err=d.err/\(a.kind≠7->a=d)/\a.err<=16
 |_,[],[],i,a,_,h=>by simp at h
 |s,o::l,u::us,0,a,h,e=>by
  obtain rfl:u=a:=by simpa using e
  exact⟨_,rfl,h.1.kind,h.1.err,h.1.det,by rw[h.1.err];exact abQ _ _ _ _⟩
 |s,o::l,u::us,i+1,a,h,e=>by
  obtain⟨d,h1,h2⟩:=jS.at (i:=i) (a:=a) h.2 (by simpa using e);exact⟨d,by simpa[xE]using h1,h2⟩
 |_,[],_::_,_,_,h,_=>h.elim
 |_,_::_,[],_,_,h,_=>h.elim
end
theorem sV {E:Nat->Addr}{a:uw}{q:Nat}{u:Value}:∀{us:List uw} {i:Nat},us[i]?=some a->(qw E a)[q]?=some u->(us.flatMap (qw E))[i*7+q]?=some u
 | [],_,h,_=>by simp at h
 |x::us,0,h,hu=>by
  obtain rfl:x=a:=by simpa using h
  have hq:=(zz.1 hu).1;rw[yn,Z2 (by omega),Nat.zero_mul,yz];exact hu
 |x::us,i+1,h,hu=>by
  have:=sV (us:=us) (i:=i) (by simpa using h) hu;rw[yn,Z1 (by simp[qw];omega)];rw[show(i+1)*7+q-(qw E x).length=i*7+q by simp[qw];omega];exact this
def lq (a:uw):Bool:=decide (a.kind=2) && !(a.err==0)
theorem jS.refs {M I:Nat}:∀{s:St} {l:List aB} {us:List uw},jS M I s l us->us.countP lq=(xE M I s l).countP lq
 |_,[],[],_=>rfl
 |s,o::l,u::us,h=>by
  unfold xE;rw[xF,xF,jS.refs h.2]
  have:lq u=lq (kr M I s o):=by
   unfold lq;rw[h.1.kind,h.1.err];rfl
  rw[this]
 |_,[],_::_,h=>h.elim
 |_,_::_,[],h=>h.elim
def abR (E:Nat->Addr)(k m i:Int)(l:List aB)(w:World)(y:Ending)(w':World):Prop:=
 y= .returned (if fM k m i l≠0 then .tuple #[.int .i64 0,eT E (fM k m i l)]else .tuple #[.int .i64 (((xE m.toNat i.toNat ko l).countP lq:Nat):Int),.nilIface])/\Below w.heap.size w w'
theorem Rk {W0:World}{E:Nat->Addr}{w:World}(hE:Env W0 E w)(hEr:eU E W0)(k m i:Int){A:Option Addr}{c:Nat}{l:List aB}(h:Reads w w.heap.size 5 A l.length (aQ l))(hn:l.length<=65536)(hwf:∀o∈l,pz o):
  Calls Tryz.prog 6 #[eX k m i,.slice A l.length c] w (abR E k m i l w):=by
 have hop:∀(V:World),Below w.heap.size w V->Calls Tryz.prog 16 #[eX k m i,.slice A l.length c] V (Q7 W0 E k m i l V):=λV hb=>
  TS (hE.next hb) (hEr.at_ 3 (by omega) (by omega)) (hEr.at_ 6 (by omega) (by omega)) (hEr.at_ 7 (by omega) (by omega)) (hEr.at_ 8 (by omega) (by omega)) (hEr.at_ 9 (by omega) (by omega)) k m i (by
   have h2:=h.below hb
   exact⟨h2.1,λhn=>by
    obtain⟨g,off,a,b,d⟩:=h2.2 hn
    exact⟨g,off,a,yp b hb.size,d⟩⟩) hn hwf
 have Db:=qd hop;have kU:=qd hn;clear hop hE hEr h hwf hn;unfold eX at Db|-;go_in;go_upto_region 1 with fail;refine aY (F:=λV=>aj V w.heap.size 23 #[.int .i64 k,.int .i64 m,.int .i64 i]/\Below w.heap.size w V) ⟨aj.new w 23 #[.int .i64 k,.int .i64 m,.int .i64 i],(Below.refl w.heap.size w).alloc (zb _) _⟩ ?_;rintro w1 ⟨hX,hb1⟩;have HB1:=qd hb1;obtain⟨bx,hbx⟩:∃bx,bx=w.heap.size:=⟨_,rfl⟩;rw[<-hbx]at hX|-;obtain⟨x0,x1,x2⟩:=hX.c3;have uJ:=qd (Db.o w1 hb1);clear hX hb1 hbx Db;go_wp2_with fail;refine uJ.o.mono ?_;rintro y w2 ⟨hy,hb2⟩;have HB2:=qd (HB1.o.trans (hb2.mono HB1.o.size));clear hb2 uJ HB1 x0 x1 x2;rcases hy with⟨hbg,rfl⟩|⟨hbg,v1,us,rfl,ho1,ha1⟩
 ·obtain⟨e,he⟩:∃e,e=fM k m i l:=⟨_,rfl⟩;have HFin:=qd (show∀V,Below w.heap.size w V->abR E k m i l w (.returned (.tuple #[.int .i64 0,eT E e])) V from λV hV=>⟨by rw[if_pos hbg,<-he],hV⟩);rw[<-he]at hbg|-;rw[gH E (by omega)]at HFin|-;clear he hbg;go_wp2;refine bodyPost_ret (v:= .tuple #[.int .i64 0,.iface 333 (.pointer (some (E e)))]) (by simp[results,Tryz.results6,go_sem]) rfl (HFin.o _ HB2.o)
 obtain⟨A1,c1,rfl⟩:=bq ho1;have hcm:=ha1.refs;have HFin:=qd (show∀V,Below w.heap.size w V->abR E k m i l w (.returned (.tuple #[.int .i64 ((us.countP lq:Nat):Int),.nilIface])) V from λV hV=>⟨by rw[if_neg (by rw[hbg];simp),<-hcm],hV⟩);have HRw:=qd (show∀V,Below w2.heap.size w2 V->Reads V V.heap.size 7 A1 us.length (us.flatMap (qw E))from λV hV=>Reads.jy (own_below ho1 hV (zb _)));have HUl:=qd (show us.length<=65536 from by have:=ha1.len;have:=kU.o;omega);have nV:=qd (Below.refl w2.heap.size w2);clear hbg ho1 ha1 hcm kU;go_wp2;go_loopw [8,22] (λv8 v22 wr=>∃j:Nat,j<=us.length/\v22=nI j/\v8= .int .i64 (((us.take j).countP lq:Nat):Int)/\Hqq (Below w2.heap.size w2 wr)) (λ_ v22 _=>us.length-(intOf v22).toNat)
 case atStart=>exact⟨0,by omega,rfl,by simp,nV⟩
 case round=>
  clear nV;obtain⟨j,hj,rfl,rfl,nV⟩:=hrel;by_cases hlt:j<us.length
  ·have hlt':(j:Int)<(us.length:Int):=by omega
   have hj0:(0:Int)<=(j:Int):=by omega
   have TT:IntKind.i64.wrap ((j:Int)+1)=((j+1:Nat):Int):=by have:=HUl.o;rw[ZZ];omega
   obtain⟨a,ha⟩:∃a,us[j]?=some a:=⟨_,zg hlt⟩;obtain⟨g1,off1,hA1,_,hc1⟩:=(HRw.o wr nV.o).2 (by omega);obtain⟨N,hN⟩:∃N,N=(us.take j).countP lq:=⟨_,rfl⟩
   have afm:N<=us.length:=by rw[hN];exact qf List.countP_le_length (by rw[qn];omega)
   have HT:=qd (show(us.take (j+1)).countP lq=N+(if lq a=true then 1 else 0)from by
    rw[J0,ha,List.countP_append,<-hN]
    simp[xF])
   rw[<-hN]
   have hwN:IntKind.i64.wrap ((N:Int)+1)=((N+1:Nat):Int):=by have:=HUl.o;rw[ZZ];omega
   obtain⟨ua,hua⟩:∃ua,ua=eT E a.err:=⟨_,rfl⟩;have r0:wr.cell? ⟨g1,off1+j*7,none⟩=some (.int .i64 a.kind):=hc1 (j*7+0) _ (sV ha (by unfold qw;rfl));have r1:wr.cell? ⟨g1,off1+j*7+1,none⟩=some (.int .i64 a.iter):=hc1 (j*7+1) _ (sV ha (by unfold qw;rfl));have r2:wr.cell? ⟨g1,off1+j*7+2,none⟩=some (.int .i64 a.state):=hc1 (j*7+2) _ (sV ha (by unfold qw;rfl));have r3:wr.cell? ⟨g1,off1+j*7+3,none⟩=some (.bool a.is):=hc1 (j*7+3) _ (sV ha (by unfold qw;rfl));have r4:wr.cell? ⟨g1,off1+j*7+4,none⟩=some (nU a.key):=hc1 (j*7+4) _ (sV ha (by unfold qw;rfl));have r5:wr.cell? ⟨g1,off1+j*7+5,none⟩=some (nU a.val):=hc1 (j*7+5) _ (sV ha (by unfold qw;rfl));have r6:wr.cell? ⟨g1,off1+j*7+6,none⟩=some ua:=hc1 (j*7+6) _ (sV ha (by unfold qw;rw[hua];rfl));subst hA1
   have hform:(ua= .nilIface/\a.err=0)\/∃Ae,ua= .iface 333 (.pointer (some Ae))/\a.err≠0:=by
    rw[hua];by_cases h0:a.err=0
    ·exact .inl ⟨by rw[h0];rfl,h0⟩
    ·exact .inr ⟨_,gH E (by omega),h0⟩
   have HM:=qd (show us.length-(j+1)<us.length-j by omega);clear hc1 ha hua hN afm;rcases hform with⟨rfl,h0⟩|⟨Ae,rfl,h0⟩
   all_goals
    by_cases hk:a.kind=2
    all_goals
     first
      |(have HR:=qd (show lq a=true from by unfold lq;rw[Xs hk,J1,beq_false_of_ne h0];rfl))
      |(have HR:=qd (show lq a=false from by unfold lq;simp[h0,hk]))
     have HT2:=qd (show(us.take (j+1)).countP lq=_ from by rw[HT.o,HR.o]);have hbb:=nV.o.size;clear h0 HR HT;go_wp2;go_roundw
     case measure=>simp[intOf];exact HM.o
     exact⟨j+1,by omega,rfl,by rw[HT2.o];simp,qd (nV.o.alloc hbb _)⟩
  ·obtain rfl:j=us.length:=by omega
   have hlt':¬(us.length:Int)<(us.length:Int):=by omega
   rw[yr];have HF:=qd (HFin.o wr (HB2.o.trans (nV.o.mono HB2.o.size)));go_wp2;refine bodyPost_ret (v:= .tuple #[.int .i64 ((us.countP lq:Nat):Int),.nilIface]) (by simp[results,Tryz.results6,go_sem]) rfl HF.o
section
variable {I M k : Nat} {s : St} {o : aB} {ks : List Int} {R R' : Nat -> Option Nat} {l : List aB} {P : PL}
def kE (R:Nat->Option Nat)(o:aB):Nat->Option Nat:=
 if o.kind=2 then(λx=>if x=o.key.toNat then some o.val.toNat else R x)else if o.kind=3 then rM R o.key.toNat else if o.kind=5 then λ_=>none else R
def sW (R:Nat->Option Nat)(l:List aB):Nat->Option Nat:=l.foldl kE R
def BM (l:List aB):Nat->Option Nat:=sW (λ_=>none) l
def CS (M I:Nat):St->List aB->Prop
 |_,[]=>True
 |s,o::l=>(o.kind=2->noRoom M (s.R o.key.toNat) s.n=false)/\CS M I (iN M I s o) l
theorem IE:∀{l:List aB} {s:St},(xE M I s l).countP lq=0->CS M I s l
 | [],_,_=>trivial
 |o::l,s,h=>by
  unfold xE at h;rw[xF]at h;refine⟨λhk=> ?_,IE (by omega)⟩
  cases hr:noRoom M (s.R o.key.toNat) s.n with
  |false=>rfl
  |true=>
   have:lq (kr M I s o)=true:=by
    unfold lq kr;simp[hk,hr]
   rw[this]at h;simp at h
theorem CU (h:o.kind=2->noRoom M (s.R o.key.toNat) s.n=false):(iN M I s o).R=kE s.R o:=by
 unfold iN kE;by_cases h2:o.kind=2
 ·rw[if_pos h2,if_pos h2];simp only;unfold CF;rw[if_neg (by rw[h h2];decide)]
 rw[if_neg h2,if_neg h2];by_cases h3:o.kind=3
 ·rw[if_pos h3,if_pos h3]
 rw[if_neg h3,if_neg h3];by_cases h5:o.kind=5
 ·rw[if_pos h5,if_pos h5]
 rw[if_neg h5,if_neg h5];split
 ·split<;>rfl
 ·split<;>rfl
theorem uG:∀{l:List aB} {s:St},CS M I s l->(eG M I s l).R=sW s.R l
 | [],_,_=>rfl
 |o::l,s,h=>by
  have:=uG (l:=l) (s:=iN M I s o) h.2;unfold eG sW at this|-;rw[ju,ju,this,CU h.1]
def pF (s:St):Prop:=∃T:PL,gN T/\(∀x,jo T x=s.R x)/\T.length=s.n
theorem pF.zero:pF ko:=⟨[],List.Pairwise.nil,λ_=>rfl,rfl⟩
theorem Y7 {t:PL}(ht:gN t)(k x:Nat):jo (Iw t k) x=if x=k then none else jo t x:=by
 refine IB λu=> ?_;rw[iK (Rf ht k),abL ht];by_cases hx:x=k
 ·subst hx;rw[if_pos rfl];constructor
  ·rintro⟨_,h⟩;exact absurd rfl h
  ·intro h;cases h
 ·rw[if_neg hx,iK ht];exact⟨λh=>h.1,λh=>⟨h,hx⟩⟩
theorem pF.step (h:pF s)(o:aB):pF (iN M I s o):=by
 obtain⟨T,ha,hg,hl⟩:=h;unfold iN;split
 ·unfold CF AJ noRoom;rw[<-hg,<-hl];by_cases hc:((jo T o.key.toNat).isNone && decide (M<=T.length))=true
  ·simp only[if_pos hc];refine⟨T,ha,hg, ?_⟩;rw[yk]at hc;simp[hc.2]
  ·simp only[if_neg hc];refine⟨pE T o.key.toNat o.val.toNat,CR ha _ _,λx=> ?_, ?_⟩
   ·rw[Nb ha,hg]
   ·rw[R7 ha]
    cases hs:jo T o.key.toNat with
    |some v=>simp
    |none=>
     rw[hs]at hc;simp at hc;simp;omega
 split
 ·unfold Io;rw[<-hg,<-hl];refine⟨Iw T o.key.toNat,Rf ha _,λx=> ?_, ?_⟩
  ·unfold rM;rw[Y7 ha,hg]
  ·unfold Iw;rw[FD ha]
   cases hs:jo T o.key.toNat with
   |none=>simp
   |some v=>
    simp only[Jn,if_true]
    have hi:qy T o.key.toNat=true:=by rw[FD ha,hs];rfl
    have hlt:iH T o.key.toNat<T.length:=by
     unfold qy at hi
     cases hx:T[iH T o.key.toNat]? with
     |none=>rw[hx]at hi;cases hi
     |some p=>exact(zz.1 hx).1
    rw[List.length_eraseIdx_of_lt hlt]
 split
 ·exact⟨[],List.Pairwise.nil,λ_=>rfl,rfl⟩
 split
 ·split<;>exact⟨T,ha,hg,hl⟩
 split<;>exact⟨T,ha,hg,hl⟩
theorem pF.all:∀(l:List aB) {s:St},pF s->pF (eG M I s l)
 | [],_,h=>h
 |o::l,s,h=>by
  have:=pF.all l (h.step (M:=M) (I:=I) o);unfold eG at this|-;rw[ju];exact this
theorem pF.le {s':St}(h:pF s)(h':pF s')(hs:∀x,(s'.R x).isSome=true->(s.R x).isSome=true):s'.n<=s.n:=by
 obtain⟨T,ha,hg,hl⟩:=h;obtain⟨T',ha',hg',hl'⟩:=h'
 have:=uD (L:=T.map Prod.fst) (uF ha') (λk hk=>by
  obtain⟨p,hp,rfl⟩:=Z3.1 hk;have h1:=(iK ha').2 (show(p.1,p.2)∈T' from hp);have h2:=hs p.1 (by rw[<-hg',h1];rfl);rw[<-hg]at h2;obtain⟨v,hv⟩:=Option.isSome_iff_exists.1 h2
  exact Z3.2 ⟨(p.1,v),(iK ha).1 hv,rfl⟩)
 rw[qS,qS]at this;omega
theorem Rl:cZ o.kind=true↔o.kind=1\/o.kind=2\/o.kind=3:=by
 unfold cZ;simp;omega
def Only (ks:List Int)(R R':Nat->Option Nat):Prop:=∀x:Nat,R' x=if ks.contains (x:Int)=true then R x else none
def vZ (ks:List Int)(o:aB):Bool:= !cZ o.kind||ks.contains o.key
theorem Only.keep (h:Only ks R R')(hk:0<=o.key)(hb:vZ ks o=true):Only ks (kE R o) (kE R' o):=λx=>by
 have hkc:cZ o.kind=true->ks.contains ((o.key.toNat:Nat):Int)=true:=λhkd=>by
  unfold vZ at hb;rw[hkd]at hb;rw[kv hk];simpa using hb
 unfold kE;by_cases h2:o.kind=2
 ·simp only[if_pos h2];by_cases hx:x=o.key.toNat
  ·subst hx;rw[if_pos rfl,if_pos rfl,if_pos (hkc (Rl.2 (by omega)))]
  ·rw[if_neg hx,if_neg hx];exact h x
 simp only[if_neg h2];by_cases h3:o.kind=3
 ·simp only[if_pos h3];unfold rM;by_cases hx:x=o.key.toNat
  ·rw[if_pos hx,if_pos hx];split<;>rfl
  ·rw[if_neg hx,if_neg hx];exact h x
 simp only[if_neg h3];by_cases h5:o.kind=5
 ·simp only[if_pos h5];split<;>rfl
 ·simp only[if_neg h5];exact h x
theorem Only.drop (h:Only ks R R')(hk:0<=o.key)(hb:vZ ks o=false):Only ks (kE R o) R':=λx=>by
 unfold vZ at hb;rw[kn]at hb
 have hkd:cZ o.kind=true:=by simpa using hb.1
 have hne:ks.contains (x:Int)=true->x≠o.key.toNat:=λhx e=>by
  rw[e,kv hk,hb.2]at hx;cases hx
 rw[h x];by_cases hx:ks.contains (x:Int)=true
 ·rw[if_pos hx,if_pos hx];unfold kE;rcases Rl.1 hkd with h1|h2|h3
  ·rw[if_neg (by omega),if_neg (by omega),if_neg (by omega)]
  ·rw[if_pos h2,if_neg (hne hx)]
  ·rw[if_neg (by omega),if_pos h3];unfold rM;rw[if_neg (hne hx)]
 ·rw[if_neg hx,if_neg hx]
theorem IG:∀{l:List aB} {s s':St},(∀o∈l,0<=o.key)->CS M I s l->pF s->pF s'->Only ks s.R s'.R->CS M I s' (l.filter (vZ ks))/\Only ks (sW s.R l) (sW s'.R (l.filter (vZ ks)))
 | [],_,_,_,_,_,_,h=>⟨trivial,h⟩
 |o::l,s,s',hk,hn,hc,hc',h=>by
  have hk0:=hk o (by simp);have hkl:∀x∈l,0<=x.key:=λx hx=>hk x (by simp[hx]);have hs:=CU (I:=I) hn.1
  cases hb:vZ ks o with
  |true=>
   have hr':o.kind=2->noRoom M (s'.R o.key.toNat) s'.n=false:=λh2=>by
    have h1:=hn.1 h2
    have hkc:ks.contains ((o.key.toNat:Nat):Int)=true:=by
     have hb2:=hb;unfold vZ at hb2;rw[Rl.2 (by omega)]at hb2;rw[kv hk0];simpa using hb2
    have hle:=hc.le hc' (λx hx=>by
     rw[h x]at hx;split at hx
     ·exact hx
     ·cases hx)
    rw[h o.key.toNat,if_pos hkc];unfold noRoom at h1|-;rw[Bool.and_eq_false_iff]at h1|-;rcases h1 with h1|h1
    ·exact .inl h1
    ·refine .inr ?_;simp at h1|-;omega
   have hs':=CU (I:=I) hr';have ih:=IG (l:=l) (s:=iN M I s o) (s':=iN M I s' o) hkl hn.2 (hc.step o) (hc'.step o) (by rw[hs,hs'];exact h.keep hk0 hb);rw[xf,if_pos hb];refine⟨⟨hr',ih.1⟩, ?_⟩;have h3:=ih.2;rw[hs,hs']at h3;unfold sW at h3|-;rw[ju,ju];exact h3
  |false=>
   have ih:=IG (l:=l) (s:=iN M I s o) (s':=s') hkl hn.2 (hc.step o) hc' (by rw[hs];exact h.drop hk0 hb);rw[xf,if_neg (by rw[hb];decide)];refine⟨ih.1, ?_⟩;have h3:=ih.2;rw[hs]at h3;unfold sW at h3|-;rw[ju];exact h3
theorem Nc (hk:0<=o.key)(h:stops (k:Int) o=false):kE R o k=R k:=by
 unfold stops at h;simp only[kn,Bool.and_eq_false_iff,xj]at h;obtain⟨⟨h5,h3⟩,h2⟩:=h;unfold kE;by_cases e2:o.kind=2
 ·rw[if_pos e2,if_neg (by omega)]
 rw[if_neg e2];by_cases e3:o.kind=3
 ·rw[if_pos e3];unfold rM;rw[if_neg (by omega)]
 rw[if_neg e3,if_neg h5]
theorem adH (hk:0<=o.key)(h:stops (k:Int) o=true):kE R o k=kE R' o k:=by
 unfold stops at h;simp only[Bool.or_eq_true,yk,x7]at h;unfold kE;rcases h with(h|⟨h,e⟩)|⟨h,e⟩
 ·rw[if_neg (by omega),if_neg (by omega),if_pos h,if_neg (by omega),if_neg (by omega),if_pos h]
 ·rw[if_neg (by omega),if_pos h,if_neg (by omega),if_pos h];unfold rM;rw[if_pos (by omega),if_pos (by omega)]
 ·rw[if_pos h,if_pos h,if_pos (by omega),if_pos (by omega)]
theorem CV:∀{l:List aB} (_:∀o∈l,0<=o.key) (R:Nat->Option Nat) (k:Nat),sW R l k=if l.any (stops (k:Int))=true then BM l k else R k
 | [],_,R,k=>by simp[sW]
 |o::l,h,R,k=>by
  have hk:=h o (by simp);have h1:=CV (l:=l) (λx hx=>h x (by simp[hx])) (kE R o) k;have h2:=CV (l:=l) (λx hx=>h x (by simp[hx])) (kE (λ_=>none) o) k;unfold BM sW at h1 h2|-;rw[ju,ju,h1,h2,List.any_cons];by_cases hl:l.any (stops (k:Int))=true
  ·rw[if_pos hl,if_pos hl,if_pos (by rw[hl];simp)]
  ·rw[if_neg hl,if_neg hl];by_cases ho:stops (k:Int) o=true
   ·rw[if_pos (by rw[ho];rfl)];exact adH hk ho
   ·rw[if_neg (by simp[ho,hl])];exact Nc hk (by simpa using ho)
theorem Fe:∀{l:List aB} (_:∀o∈l,0<=o.key) (R:Nat->Option Nat) (k:Nat),sW R (shrink l) k=match BM l k with
  |some v=>some v
  |none=>R k
 | [],_,R,k=>rfl
 |o::l,h,R,k=>by
  have hk:=h o (by simp);have hl:∀x∈l,0<=x.key:=λx hx=>h x (by simp[hx])
  have hA:BM (o::l) k=if l.any (stops (k:Int))=true then BM l k else kE (λ_=>none) o k:=CV hl (kE (λ_=>none) o) k
  have hN:l.any (stops (k:Int))=false->BM l k=none:=λhn=>by
   have:=CV hl (λ_=>none) k;rw[hn,if_neg (by decide)]at this;exact this
  unfold shrink;by_cases hc:(o.kind==2 && !l.any (stops o.key))=true
  ·rw[if_pos hc];have ih:=Fe hl (kE R o) k;unfold sW at ih|-;rw[ju,ih,hA];rw[yk]at hc
   have h2:o.kind=2:=by simpa using hc.1
   by_cases hx:k=o.key.toNat
   ·have hs:l.any (stops (k:Int))=false:=by rw[hx,kv hk];simpa using hc.2
    rw[hN hs,hs,if_neg (by decide)];unfold kE;rw[if_pos h2,if_pos h2];simp only;rw[if_pos hx,if_pos hx]
   ·have hu:∀Q:Nat->Option Nat,kE Q o k=Q k:=λQ=>by unfold kE;rw[if_pos h2,if_neg hx]
    rw[hu,hu];by_cases hs:l.any (stops (k:Int))=true
    ·rw[if_pos hs]
    ·rw[if_neg hs,hN (by simpa using hs)]
  ·rw[if_neg hc];have ih:=Fe hl R k;unfold sW at ih|-;rw[ih,hA];by_cases hs:l.any (stops (k:Int))=true
   ·rw[if_pos hs]
   ·have hs':l.any (stops (k:Int))=false:=by simpa using hs
    rw[if_neg hs,hN hs']
    have:kE (λ_=>none) o k=none:=by
     unfold kE;by_cases h2:o.kind=2
     ·rw[if_pos h2];simp only;by_cases hx:k=o.key.toNat
      ·refine absurd ?_ hc;rw[yk];refine⟨by simp[h2], ?_⟩;rw[hx,kv hk]at hs';rw[hs'];rfl
      ·rw[if_neg hx]
     rw[if_neg h2];split
     ·unfold rM;split<;>rfl
     split<;>rfl
    rw[this]
theorem Kc:∀{l:List aB} {s:St},(∀o∈l,o.kind=2/\0<=o.key)->(l.map (·.key)).Nodup->(∀o∈l,s.R o.key.toNat=none)->s.n+l.length<=M->CS M I s l
 | [],_,_,_,_,_=>trivial
 |o::l,s,h2,hn,hr,hm=>by
  rw[ye,qa]at hn;rw[ZS]at hm
  have hno:noRoom M (s.R o.key.toNat) s.n=false:=by
   unfold noRoom;rw[Bool.and_eq_false_iff];exact .inr (by simp;omega)
  refine⟨λ_=>hno,Kc (λx hx=>h2 x (by simp[hx])) hn.2 (λx hx=> ?_) ?_⟩
  ·rw[CU (I:=I) (λ_=>hno)];unfold kE;rw[if_pos (h2 o (by simp)).1,if_neg ?_,hr x (by simp[hx])];intro e;have h3:=(h2 o (by simp)).2;have h4:=(h2 x (by simp[hx])).2;exact hn.1 (Z3.2 ⟨x,hx,by omega⟩)
  ·unfold iN;rw[if_pos (h2 o (by simp)).1];simp only;unfold AJ;split
   ·omega
   ·omega
theorem adI (h:s.n<=M)(o:aB):(iN M I s o).n<=M:=by
 unfold iN;split
 ·simp only;unfold AJ;split
  ·exact h
  ·next hc=>
   simp at hc;omega
 split
 ·simp only;unfold Io
  split<;>omega
 split
 ·exact Q4 _
 split
 ·split<;>exact h
 split<;>exact h
theorem Y8:∀(l:List aB) {s:St},s.n<=M->(eG M I s l).n<=M
 | [],_,h=>h
 |o::l,s,h=>by
  have:=Y8 l (adI (I:=I) h o);unfold eG at this|-;rw[ju];exact this
theorem TW:∀(n:Nat) {l:List aB} (_:l.length=n) (_:∀o∈l,0<=o.key) {k v:Nat},BM l k=some v->∃i o,last (k:Int) l=some i/\l[i]?=some o/\o.kind=2/\o.key=(k:Int)/\o.val.toNat=v
 |0,l,hl,_,k,v,h=>by
  obtain rfl:=xr.1 hl;cases h
 |n+1,l,hl,hk,k,v,h=>by
  have hne:l≠[]:=λe=>by rw[e]at hl;cases hl
  obtain⟨t,o,rfl⟩:∃t o,l=t++[o]:=⟨l.dropLast,l.getLast hne,(kt hne).symm⟩
  have hlt:t.length=n:=by simpa using hl
  have hko:=hk o (by simp)
  have hu:BM (t++[o]) k=kE (BM t) o k:=by unfold BM sW;rw[KB];rfl
  rw[hu]at h;rw[EX];by_cases h5:o.kind=5
  ·unfold kE at h;rw[if_neg (by omega),if_neg (by omega),if_pos h5]at h;cases h
  by_cases h3:o.kind=3/\o.key=(k:Int)
  ·unfold kE at h;rw[if_neg (by omega),if_pos h3.1]at h;unfold rM at h;rw[if_pos (by omega)]at h;cases h
  rw[if_neg (by simp;exact⟨h5,λa b=>h3 ⟨a,b⟩⟩)];by_cases h2:o.kind=2/\o.key=(k:Int)
  ·unfold kE at h;rw[if_pos h2.1,if_pos (by omega)]at h;exact⟨t.length,o,by rw[if_pos (by simp[h2.1,h2.2])],by simp,h2.1,h2.2,by injection h⟩
  rw[if_neg (by simp;exact λa b=>h2 ⟨a,b⟩)]
  have hs:stops (k:Int) o=false:=by
   unfold stops;simp only[kn,Bool.and_eq_false_iff,xj];refine⟨⟨h5, ?_⟩, ?_⟩
   ·by_cases a:o.kind=3
    ·exact .inr λb=>h3 ⟨a,b⟩
    ·exact .inl a
   ·by_cases a:o.kind=2
    ·exact .inr λb=>h2 ⟨a,b⟩
    ·exact .inl a
  rw[Nc hko hs]at h;obtain⟨i,x,h6,h7,h8⟩:=TW n hlt (λx hx=>hk x (by simp[hx])) h;exact⟨i,x,h6,by rw[Z2 (zz.1 h7).1];exact h7,h8⟩
theorem abS {l':List aB}(hs:l'.Sublist l)(h:kC l=0):kC l'=0:=by
 unfold kC at h;by_cases h1:2000<l.length
 ·rw[if_pos h1]at h;cases h
 rw[if_neg h1]at h;by_cases h2:(l.any λo=> !fU o)=true
 ·rw[if_pos h2]at h;cases h
 rw[if_neg h2]at h;by_cases h3:(other l).isSome=true
 ·rw[if_pos h3]at h;cases h
 have hf:free l:=CK.1 (by simpa using h3);have hf':free l':=λa ha b hb=>hf a (hs.subset ha) b (hs.subset hb);unfold kC;rw[if_neg (by have:=hs.length_le;omega),if_neg (λhh=>h2 ?_),if_neg (by rw[CK.2 hf'];decide)];obtain⟨o,ho,hr⟩:=QR.1 hh;exact QR.2 ⟨o,hs.subset ho,hr⟩
theorem qG:∀l:List aB,(shrink l).Sublist l
 | []=>List.Sublist.slnil
 |o::l=>by
  unfold shrink;split
  ·exact(qG l).cons_cons o
  ·exact(qG l).cons o
theorem Ke (h:gN P)(p:Nat×Nat->Bool):gN (P.filter p):=h.sublist List.filter_sublist
theorem Sd (h:gN P)(f:Nat->Bool)(x:Nat):jo (P.filter λp=>f p.1) x=if f x=true then jo P x else none:=by
 refine IB λu=> ?_;rw[iK (Ke h _),List.mem_filter];by_cases hf:f x=true
 ·rw[if_pos hf,iK h];simp[hf]
 ·rw[if_neg hf];simp[hf]
theorem Nf:∀{L:List aB} {R:Nat->Option Nat} {k:Nat},(∀o∈L,o.kind=2)->(R k).isSome=true->(sW R L k).isSome=true
 | [],_,_,_,h=>h
 |o::L,R,k,h2,h=>by
  refine Nf (L:=L) (R:=kE R o) (λx hx=>h2 x (by simp[hx])) ?_;unfold kE;rw[if_pos (h2 o (by simp))];split
  ·rfl
  ·exact h
theorem Rm:∀{L:List aB} {R:Nat->Option Nat} {o:aB},(∀o∈L,o.kind=2)->o∈L->(sW R L o.key.toNat).isSome=true
 |x::L,R,o,h2,h=>by
  have h2':∀o∈L,o.kind=2:=λy hy=>h2 y (by simp[hy]);rcases zt.1 h with rfl|h
  ·refine Nf (L:=L) (R:=kE R o) h2' ?_;unfold kE;rw[if_pos (h2 o (by simp)),if_pos rfl];rfl
  ·exact Rm (L:=L) (R:=kE R x) h2' h
theorem Ng:∀{L:List aB} {R:Nat->Option Nat} {k:Nat},(∀o∈L,o.kind=2)->(sW R L k).isSome=true->(R k).isSome=true\/∃o∈L,o.key.toNat=k
 | [],_,_,_,h=> .inl h
 |o::L,R,k,h2,h=>by
  rcases Ng (L:=L) (R:=kE R o) (λx hx=>h2 x (by simp[hx])) h with h|⟨x,hx,h⟩
  ·unfold kE at h;rw[if_pos (h2 o (by simp))]at h;split at h
   ·next e=>exact .inr ⟨o,by simp,e.symm⟩
   ·exact .inl h
  ·exact .inr ⟨x,by simp[hx],h⟩
structure afW (M I:Nat)(l:List aB)(ks:List Int)(P S L:PL):Prop where
 least:L=P
 len:(shrink l).length=P.length
 some_:S=P.filter λp=>ks.contains (p.1:Int)
theorem afn {S L:PL}(hk:∀o∈l,0<=o.key)(hr:(xE M I ko l).countP lq=0)(hP:gN P)(hS:gN S)(hL:gN L)(gP:∀x,jo P x=(eG M I ko l).R x)(gS:∀x,jo S x=(eG M I ko (l.filter (vZ ks))).R x)(gL:∀x,jo L x=(eG M I ko (shrink l)).R x):afW M I l ks P S L:=by
 have hn:=IE hr;have hA:=uG hn
 have hun:∀x,sW ko.R (shrink l) x=BM l x:=λx=>by
  rw[Fe hk];show _=BM l x
  cases BM l x<;>rfl
 have hlen:(shrink l).length=P.length:=by
  have h1:=uD (L:=P.map Prod.fst) (ks:=(shrink l).map λo=>o.key.toNat) (by
   have h2:=vX l;unfold List.Nodup at h2|-;rw[List.pairwise_map]at h2|-;refine List.Pairwise.imp_of_mem ?_ h2;intro a b ha hb hab e;have h3:=hk a ((kZ l a ha).2);have h4:=hk b ((kZ l b hb).2)
   exact hab (by omega)) (λx hx=>by
   obtain⟨o,ho,rfl⟩:=Z3.1 hx;have h5:(sW ko.R (shrink l) o.key.toNat).isSome=true:=Rm (λo ho=>(kZ l o ho).1) ho;rw[hun]at h5;obtain⟨v,hv⟩:=Option.isSome_iff_exists.1 h5
   have h7:jo P o.key.toNat=some v:=by rw[gP,hA];exact hv
   exact Z3.2 ⟨_,(iK hP).1 h7,rfl⟩)
  have h2:=uD (ks:=P.map Prod.fst) (L:=(shrink l).map λo=>o.key.toNat) (uF hP) (λx hx=>by
   obtain⟨p,hp,rfl⟩:=Z3.1 hx;have h3:=(iK hP).2 (show(p.1,p.2)∈P from hp);rw[gP,hA]at h3
   have h4:sW ko.R (shrink l) p.1=some p.2:=by rw[hun];exact h3
   rcases Ng (λo ho=>(kZ l o ho).1) (by rw[h4];rfl)with hz|⟨o,ho,he⟩
   ·cases hz
   ·exact Z3.2 ⟨o,ho,he⟩)
  rw[qS,qS]at h1 h2;omega
 have hPM:P.length<=M:=by
  obtain⟨T,h1,h2,h3⟩:=pF.all (M:=M) (I:=I) l pF.zero
  obtain rfl:P=T:=Iy hP h1 λx=>by rw[gP,h2]
  rw[h3];exact Y8 l (Q4 _)
 have hns:CS M I ko (shrink l):=Kc (λo ho=>⟨(kZ l o ho).1,hk o (kZ l o ho).2⟩) (vX l) (λo _=>rfl) (by
  show 0+(shrink l).length<=M
  omega)
 refine⟨Iy hL hP λx=> ?_,hlen,Iy hS (Ke hP _) λx=> ?_⟩
 ·rw[gL,uG hns,hun,gP,hA];rfl
 ·have ho:=IG (M:=M) (I:=I) (ks:=ks) (s:=ko) (s':=ko) hk hn pF.zero pF.zero (λx=>by
   show none=if _ then none else none
   split<;>rfl)
  rw[gS,uG ho.1,ho.2 x,Sd hP (λk=>ks.contains (k:Int)),gP,hA]
end
def afo (w0:World)(g:Nat)(cap:Array Value)(K:Nat->aB->Bool)(l:List aB):Prop:=
 ∀(W:World) (i:Nat) (o:aB),l[i]?=some o->Below w0.heap.size w0 W->Calls Tryz.prog g (#[.int .i64 i,oq o]++cap) W λe W'=>e= .returned (.bool (K i o))/\Below W.heap.size W W'
theorem Kg (A:Option Addr)(n c:Nat)(l:List aB)(w:World)(g:Nat)(cap:Array Value)(K:Nat->aB->Bool)(h:Reads w w.heap.size 5 A n (aQ l))(hn:n<=65536)
  (eg:∀args w,(callFunc g args).run Tryz.prog w= .ok (.enter g args) w) (hK:afo w g cap K l):
  Calls Tryz.prog 24 #[.slice A n c,.func (.func g) #[] cap] w λe w'=>∃v,e= .returned v/\w'.ownsRow w.heap.size 45 5 v (jZ K 0 l).length (aQ (jZ K 0 l))/\Below w.heap.size w w':=by
 have hl:l.length=n:=by have:=h.1;rw[dZ]at this;omega
 go_in;go_wp2;go_loopw [5,6,7,10] (λv _ _ i wr=>∃k:Nat,k<=n/\i= .int .i64 k/\wr.ownsRow w.heap.size 45 5 v (jZ K 0 (l.take k)).length (aQ (jZ K 0 (l.take k)))/\Below w.heap.size w wr) (λ_ _ _ i _=>n-(intOf i).toNat)
 case atStart=>exact⟨0,by omega,rfl,by simp[jZ,aQ];exact World.ownsRow_nil _ _ _ _,Below.refl _ _⟩
 case round=>
  obtain⟨k,hk,rfl,hown,hB⟩:=hrel;by_cases hlt:k<n
  ·have ho:l[k]?=some (l[k]'(by omega)):=zg _;generalize l[k]'(by omega)=o at ho;obtain⟨b,off,rfl,hb,c0,c1,c2,c3,c4⟩:=jE (h.below hB) ho;have Ho:=qd ho;clear ho;have hkl:(jZ K 0 (l.take k)).length<=k:=qf (EW K (l.take k) 0) (List.length_take_le _ _);have hks:=J4 K o (l.take k) 0
   have htk:l.take (k+1)=l.take k++[o]:=by rw[J0,Ho.o];rfl
   have htl:(l.take k).length=k:=by rw[qn];omega
   have HS:Hqq (jZ K 0 (l.take (k+1))=jZ K 0 (l.take k)++(if K k o then [o]else [])):=qd (by rw[htk,hks,htl,yz])
   clear hks htk htl;have HK:=qd (hK · k o Ho.o);have hA1:∀x,Below w.heap.size w (wr.alloc x):=λx=>hB.alloc hB.size x;clear hK
   go_wp2_with (first
    |(go_at_fn g;refine(HK.o _ (hA1 _)).mono ?_;rintro e w1 ⟨rfl,hb1⟩;obtain⟨hc1,hf1⟩:=afz hb1;have hbw:=(hA1 _).trans (hb1.mono (by have:=hB.size;simp;omega));have hown1:=own_below (hown.alloc _) hb1 (zb _);have agO:=hbw.size)
    |(at_builtin;refine gD rfl rfl adB hown1 rfl rfl (by simp) rfl rfl (by omega) agO ?_;intro v2 w2 hown2 hg2))
   ·go_roundw
    case rel=>exact⟨k+1,by omega,by go_num,by rw[HS.o,if_pos (by assumption)];simpa[aQ,oo]using hown2,hbw.trans hg2.below⟩
    case measure=>simp[intOf];omega
   ·go_roundw
    case rel=>exact⟨k+1,by omega,by go_num,by rw[HS.o,if_neg (by simp[*])];simpa using hown1,hbw⟩
    case measure=>simp[intOf];omega
  ·go_wp2;go_ret;exact⟨_,rfl,by rw[ym (by omega)]at hown;exact hown,hB⟩
