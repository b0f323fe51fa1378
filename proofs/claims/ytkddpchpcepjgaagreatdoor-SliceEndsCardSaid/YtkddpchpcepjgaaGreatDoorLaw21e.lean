/- The iterators that are open: At of one that is not there, Close, EndAll. No statement of the claim. -/
import Derived.Test.YtkddpchpcepjgaaGreatDoorRmN
namespace Go.Proofs.YtkddpchpcepjgaaGreatDoor
set_option maxRecDepth 100000
set_option maxHeartbeats 4000000
open Go.RowKit cu Go.MapKept
open Go.ChangeMaps (setBlock heap_setBlock_same heap_setBlock_other)
theorem kp:type_of% @Nat.lt_trichotomy:=@Nat.lt_trichotomy
section
variable {ops : Array Oper} {rest : List Oper} {o : Oper} {a : Act} {Q : Exit -> Act -> World -> Prop} {r : Nat} {seen : Array Nat} {E : Nat -> Addr} {w2 : World}
theorem ER {α β:Type}(f:α->β):∀(l:List α) (j:Nat),(l.map f).eraseIdx j=(l.eraseIdx j).map f
 | [],_=>by simp
 |x::l,0=>rfl
 |x::l,j+1=>by simp[ER f l j]
section
variable {P : Program} {w w' : World} {b g : Nat} {l : List (Nat × Nat)} {t k e : TypeId}
theorem iJ.del (h:iJ w b g l)(ht:P.underlying t=some (.map k e))(hk:P.underlying k=some (.int .i64)){j:Nat}{p:Nat×Nat}(hj:l[j]?=some p)(hn:(l.map Prod.fst).Nodup)(ty:TypeId):
  (Builtin.delete_ #[t,k] ty #[.map (some b),nI p.1]).run P w= .ok (.tuple #[]) (setBlock w b (.map ((l.eraseIdx j).map gJ).toArray g)):=by
 obtain⟨a,h1,h2,h4⟩:=Cy (p.1:Int) l 0;have h3:=run_findKey (P:=P) (w:=w) hk h1
 cases a with
 |none=>
  have:nK l (p.1:Int)=none:=by cases hf:nK l (p.1:Int)with|none=>rfl|some q=>rw[hf]at h2;cases h2
  exact absurd rfl (xZ.1 this p (zE hj))
 |some q=>
  obtain⟨i,v⟩:=q;obtain⟨j',h5,h6⟩:=h4 _ rfl
  have hij:i=j:=by
   simp only[yz]at h5;rw[Q3]at h6
   cases hq:l[j']? with
   |none=>rw[hq]at h6;cases h6
   |some q'=>
    rw[hq]at h6
    have e0:(q'.1:Int)=(p.1:Int):=by simpa using h6
    have e1:q'.1=p.1:=by omega
    have a1:(l.map Prod.fst)[j']?=some p.1:=by rw[Q3,hq];simp[e1]
    have a2:(l.map Prod.fst)[j]?=some p.1:=by rw[Q3,hj];rfl
    obtain⟨b1,b2⟩:=zz.1 a1;obtain⟨b3,b4⟩:=zz.1 a2;rw[h5];have hp:=kf.1 hn;rcases kp j' j with z|z|z
    ·exact absurd (b2.trans b4.symm) (hp _ _ b1 b3 z)
    ·exact z
    ·exact absurd (b4.trans b2.symm) (hp _ _ b3 b1 z)
  subst hij;simp[Builtin.delete_,XN ht,k8 (show w.heap[b]?=some (.map (l.map gJ).toArray g)from h),run_checkKey hk FB,h3,Go.MapKept.run_setObj_map _ (show w.heap[b]?=some (.map (l.map gJ).toArray g)from h),Result.andThen,setBlock,ER]
theorem QG (hg:o.guard=none)(it:Operand)(hop:o.op=Op.next it false)(hl:∀p∈l,1<=p.1/\p.1<=g)(hnd:(l.map Prod.fst).Nodup)(hit:a.eval it=pQ r)(h:iJ w b g l)(hr:w.heap[r]?=some (.mapIter (some b) g seen g))(hDone:Hqq (∀p∈l,seen.contains (p.1-1)=true)->wpList P ops Q rest (a.put o.dst (.tuple #[.bool false])) w)(hMore:∀(n c:Nat) (w':World),Hqq ((n,c)∈l/\iJ w' b g l/\w'.heap[r]?=some (.mapIter (some b) g (seen.push (n-1)) g)/\(leftOf (l.map gJ).toArray (seen.push (n-1))).size<(leftOf (l.map gJ).toArray seen).size/\Mod [r] w w')->
   (Instr.entry (pQ r)).run P w'= .ok (.tuple #[nI n,pQ c]) w'->wpList P ops Q rest (a.put o.dst (.tuple #[.bool true,nI n,pQ c])) w'):
  wpList P ops Q (o::rest) a w:=by
 refine wpList_plain hg λK' hK'=> ?_;unfold Oper.wp
 have hne:r≠b:=λe=>by
  have h1:w.heap[b]?=some (.map (l.map gJ).toArray g):=h;rw[<-e,hr]at h1;cases h1
 have hold:∀x∈((l.map gJ).toArray).toList,x.born<g:=λx hx=>by
  obtain⟨p,hp,rfl⟩:∃p∈l,gJ p=x:=by simpa using hx
  have:=hl p hp;show p.1-1<g;omega
 have hbn:((l.map gJ).toArray.toList.map (·.born)).Nodup:=by
  have e1:(l.map gJ).toArray.toList.map (·.born)=l.map λp=>p.1-1:=by simp[gJ,Function.comp_def]
  rw[e1];unfold List.Nodup at hnd|-;rw[List.pairwise_map]at hnd|-;exact hnd.imp_of_mem λha hb hne e=>hne (by have:=hl _ ha;have:=hl _ hb;omega)
 rcases run_next_at (P:=P) w o.type r b g g seen (l.map gJ).toArray g hr h hold (zb _)with⟨h0,hrun⟩|⟨x,hx,w1,hal,hrun⟩
 ·simp[execOp,hop,hit,hrun,Result.andThen];exact hK' _ _ (hDone<|qd λp hp=>all_seen _ seen h0 (gJ p) (QQ hp))
 ·obtain⟨hem,hes⟩:=mem_left hx
  obtain⟨p,hp,rfl⟩:∃p∈l,gJ p=x:=by simpa using hem
  have hr1:w1.heap[r]?=some (.mapIter (some b) g seen g):=by rcases hal with rfl|rfl<;>exact hr
  have hb1:w1.heap[b]?=some (.map (l.map gJ).toArray g):=by rcases hal with rfl|rfl<;>exact h
  have hset:=heap_set (o':= .mapIter (some b) g (seen.push (gJ p).born) g) hr1;have hb':=(hset.2 b (λe1=>hne e1.symm)).trans hb1
  have hmod:Mod [r] w (setBlock w1 r (.mapIter (some b) g (seen.push (gJ p).born) g)):=by
   rcases hal with rfl|rfl
   ·exact⟨rfl,rfl,rfl,by simp[setBlock],λk _ hn=>hset.2 k (λe=>hn (by simp[e]))⟩
   ·exact⟨rfl,rfl,rfl,by simp[setBlock],λk _ hn=>hset.2 k (λe=>hn (by simp[e]))⟩
  simp[execOp,hop,hit,hrun,Result.andThen];exact hK' _ _ (hMore p.1 p.2 _ (qd ⟨hp,hb',hset.1,left_shrinks _ seen _ hx,hmod⟩) (run_entry_at _ r b g seen _ g (gJ p) hset.1 hb' hem hbn))
theorem N7 (hg:o.guard=none)(m:Operand)(hop:o.op=Op.range t m)(ht:P.underlying t=some (.map k e))(hm:a.eval m= .map (some b))(h:iJ w b g l)(hK:wpList P ops Q rest (a.put o.dst (pQ w.heap.size)) (w.alloc (.mapIter (some b) g #[] g))):wpList P ops Q (o::rest) a w:=by
 refine wpList_plain hg λK' hK'=> ?_;have hrun:=run_range_map w t k e b (l.map gJ).toArray g ht h;unfold Oper.wp;simp[execOp,hop,hm,hrun,Result.andThen];exact hK' _ _ hK
end
theorem ES {w:World}{b g:Nat}{l:List (Nat×Nat)}{m:Option Nat}{s c:Nat}(h:iJ w b g l)(hr:w.heap[r]?=some (.mapIter m s seen c)):w.rangeLeft b r=(leftOf (l.map gJ).toArray seen).size:=by
 have h1:w.heap[b]?=some (.map (l.map gJ).toArray g):=h;unfold World.rangeLeft;rw[h1,hr]
section
variable {w : World} {ib mb most given : Nat} {its : List It}
theorem MV (its:List It):(gq its).map Prod.fst=its.map It.id:=by unfold gq;rw[js];rfl
theorem fQ.VD (h:fQ w ib mb most given its){i:It}(hi:i∈its):mb≠i.cb/\ib≠i.cb/\ib≠mb:=by
 have:=h.nf;unfold bD at this;rw[qa,qa]at this;have hm:=QQ (f:=It.cb) hi;exact⟨λe=>this.2.1 (e▸hm),λe=>this.1 (qu _ (e▸hm)),λe=>this.1 (by rw[e];simp)⟩
theorem fQ.aeR (h:fQ w ib mb most given its){i j:It}(hi:i∈its)(hj:j∈its)(e:i.cb=j.cb):i=j:=by
 have hn:(its.map It.cb).Nodup:=by
  have:=h.nf;unfold bD at this;rw[qa,qa]at this;exact this.2.2
 clear h
 induction its with
 |nil=>cases hi
 |cons x l ih=>
  rw[ye,qa]at hn;rcases zt.1 hi with h1|h1
  ·rcases zt.1 hj with h2|h2
   ·rw[h1,h2]
   ·exact absurd (show x.cb∈l.map It.cb from by rw[<-h1,e];exact QQ h2) hn.1
  ·rcases zt.1 hj with h2|h2
   ·exact absurd (show x.cb∈l.map It.cb from by rw[<-h2,<-e];exact QQ h1) hn.1
   ·exact ih h1 h2 hn.2
theorem Dq {id:Int}(h:fQ w ib mb most given its)(hn:∀i∈its,(i.id:Int)≠id)(h6:bY E w 6):Calls Tryz.prog 104 #[pQ ib,.int .i64 id] w λy w'=>y= .returned (.tuple #[.pointer none,.iface 333 (.pointer (some (E 6)))])/\Below w.heap.size w w':=by
 have hl:=h.map.look (P:=Tryz.prog) (t:=139) Tryz.underlying139 Tryz.underlying3 (TI _) id
 have hf:nK (gq its) id=none:=xZ.2 λp hp=>by
  obtain⟨i,hi,rfl⟩:=Z3.1 hp;exact hn i hi
 rw[hf]at hl;unfold bY at h6;simp only[gE]at h6;obtain⟨c0,c1,c2⟩:=h.blk.c3;unfold QD at hl;simp only[vj,jp]at hl;clear h hn hf;go_in;go_upto_region 3 with fail;go_region;go_wp2;refine bodyPost_ret (v:= .tuple #[.pointer none,.iface 333 (.pointer (some (E 6)))]) (by simp[results,Tryz.results104,go_sem]) rfl ⟨rfl,(Below.refl _ _).drew⟩
theorem fQ.erased {j:Nat}(h:fQ w ib mb most given its)(hb:aj w2 ib 141 #[nI most,nI given,.map (some mb)])(hm:iJ w2 mb given ((gq its).eraseIdx j))(hmod:Mod [mb] w w2):fQ w2 ib mb most given (its.eraseIdx j):=by
 have hs:=List.eraseIdx_sublist its j;refine⟨hb,by unfold gq at hm|-;rw[<-ER];exact hm,λi hi=>(h.cur i (hs.subset hi)).mod hmod (λhh=>(h.VD (hs.subset hi)).1 (zj.1 hh).symm),λi hi=>h.ids i (hs.subset hi),h.nd.sublist (hs.map _), ?_,h.few.1,by have:=hs.length_le;have:=h.few.2;omega⟩;have:=h.nf;unfold bD at this|-;exact this.sublist (((hs.map _).cons_cons _).cons_cons _)
theorem RZ {j id cb:Nat}{c:jl}(h:fQ w ib mb most given its)(hj:its[j]?=some ⟨id,cb,c⟩):Calls Tryz.prog 78 #[pQ ib,nI id] w λy w'=>y= .returned .nilIface/\fQ w' ib mb most given (its.eraseIdx j)/\Mod [mb] w w':=by
 have jH:=qd (QE h (zE hj))
 have hj2:(gq its)[j]?=some (id,cb):=by unfold gq;rw[Q3,hj];rfl
 have hdel:=λty=>h.map.del (P:=Tryz.prog) (t:=139) Tryz.underlying139 Tryz.underlying3 hj2 (by rw[MV];exact h.nd) ty;have hms:=h.map.ak ((gq its).eraseIdx j) given;have hmm:=h.map.AB (.map (((gq its).eraseIdx j).map gJ).toArray given);obtain⟨W2,hW2⟩:∃W2,W2=setBlock w mb (.map (((gq its).eraseIdx j).map gJ).toArray given):=⟨_,rfl⟩;rw[<-hW2]at hms hmm;have him:ib∉[mb]:=λhh=>(h.VD (zE hj)).2.2 (zj.1 hh);have HE:=qd (And.intro (h.erased (j:=j) (h.blk.mod hmm him) hms hmm) hmm);have c2:=h.blk.cell 2;simp only[gl]at c2 hdel;simp only[<-hW2]at hdel;clear h hj hj2 hms hmm him hW2;go_in;go_wp2_with fail;refine jH.o.mono ?_;rintro y w1 ⟨rfl,rfl⟩;go_wp2;go_ret;exact⟨rfl,HE.o⟩
theorem Im {id:Int}(h:fQ w ib mb most given its)(hn:∀i∈its,(i.id:Int)≠id)(h6:bY E w 6):Calls Tryz.prog 78 #[pQ ib,.int .i64 id] w λy w'=>y= .returned (.iface 333 (.pointer (some (E 6))))/\Below w.heap.size w w':=by
 have jH:=qd (Dq h hn h6);clear h hn h6;go_in;go_wp2_with fail;refine jH.o.mono ?_;rintro y w1 ⟨rfl,hb⟩;go_wp2;go_ret;exact⟨rfl,hb⟩
def It.ended (i:It):It:=⟨i.id,i.cb,⟨0,0,true⟩⟩
theorem fQ.ended (h:fQ w ib mb most given its)(hb:aj w2 ib 141 #[nI most,nI given,.map (some mb)])(hm:iJ w2 mb given (gq its))(hc:∀i∈its,eY w2 i.cb ⟨0,0,true⟩):fQ w2 ib mb most given (its.map It.ended):=by
 have e1:(its.map It.ended).map It.cb=its.map It.cb:=by rw[js];rfl
 have e2:(its.map It.ended).map It.id=its.map It.id:=by rw[js];rfl
 refine⟨hb,by unfold gq at hm|-;rw[js];exact hm,λi hi=> ?_,λi hi=> ?_,by rw[e2];exact h.nd,by have:=h.nf;unfold bD at this|-;rw[e1];exact this,h.few.1,by rw[qS];exact h.few.2⟩
 ·obtain⟨i',hi',rfl⟩:=Z3.1 hi;exact hc i' hi'
 ·obtain⟨i',hi',rfl⟩:=Z3.1 hi;exact h.ids i' hi'
theorem QH (h:fQ w ib mb most given its):Calls Tryz.prog 75 #[pQ ib] w λy w'=>y= .returned undef/\fQ w' ib mb most given (its.map It.ended)/\Mod (its.map It.cb) w w':=by
 have c2:=h.blk.cell 2;simp only[gl]at c2;have HH:=qd h;have HL:=qd (show(∀p∈gq its,1<=p.1/\p.1<=given)/\((gq its).map Prod.fst).Nodup from⟨λp hp=>by obtain⟨i,hi,rfl⟩:=Z3.1 hp;exact h.ids i hi,by rw[MV];exact h.nd⟩);have hb0:=(Below.refl w.heap.size w).alloc (zb _) (.mapIter (some mb) given #[] given);have hm0:=Mod.of_below hb0 [];have HM:=qd (h.map.mod hm0 (by simp));have HB:=qd (h.blk.mod hm0 (by simp))
 have HC:=qd (show∀i∈its,eY (w.alloc (.mapIter (some mb) given #[] given)) i.cb (if(#[]:Array Nat).contains (i.id-1)=true then⟨0,0,true⟩else i.c)from λi hi=>by
  rw[if_neg (by simp)]
  exact(h.cur i hi).mod hm0 (by simp))
 have HW:=qd (Mod.of_below hb0 (its.map It.cb));have hit:=heap_alloc_new w (.mapIter (some mb) given #[] given);obtain⟨r,hr⟩:∃r,r=w.heap.size:=⟨_,rfl⟩;have HR:=qd (show∀q∈bD ib mb its,q<r from λq hq=>by rw[hr];exact h.fC q hq);have HR2:=qd (show w.heap.size<=r by omega);have hmp:=h.map;clear h hb0 hm0;go_in;go_wp2_with (at_range;refine N7 rfl _ rfl Tryz.underlying139 rfl hmp ?_);clear hmp c2;rw[<-hr]at hit|-;obtain⟨W,hW⟩:∃W,W=w.alloc (.mapIter (some mb) given #[] given):=⟨_,rfl⟩;rw[<-hW]at HM HB HC HW hit|-;have HI:=qd hit;clear hW hit hr;go_frame;go_loopw [3] (λ_ wr=>∃seen:Array Nat,Hqq (wr.heap[r]?=some (.mapIter (some mb) given seen given))/\Hqq (iJ wr mb given (gq its))/\Hqq (aj wr ib 141 #[nI most,nI given,.map (some mb)])/\Hqq (∀i∈its,eY wr i.cb (if seen.contains (i.id-1)=true then⟨0,0,true⟩else i.c))/\Hqq (Mod (its.map It.cb) w wr)) (λ_ wr=>wr.rangeLeft mb r)
 case atStart=>exact⟨_,HI,HM,HB,HC,HW⟩
 case round=>
  clear HI HM HB HC HW;obtain⟨seen,HI,HM,HB,HC,HW⟩:=hrel;go_wp2_with (at_next;refine QG rfl _ rfl HL.o.1 HL.o.2 rfl HM.o HI.o ?_ ?_)
  ·intro hd;go_wp2;go_end0
   exact⟨rfl,HH.o.ended HB.o HM.o (λi hi=>by
    have h1:=HC.o i hi
    rwa [if_pos (by have h2:=hd.o i.id i.cb (Z3.2 ⟨i,hi,rfl⟩);simpa using h2)]at h1),HW.o⟩
  ·intro n cb w1 hx hen;obtain⟨i,hi,hic⟩:=Z3.1 hx.o.1;obtain⟨rfl,rfl⟩:=Prod.mk.inj hic
   have hrc:r∉its.map It.cb:=λhh=>by have:=HR.o r (by unfold bD;simp only[zt];exact .inr (.inr hh));omega
   have hcs:∀k∈its,k.cb∉[r]:=λk hk hh=>hrc (zj.1 hh▸QQ hk);have hm1:=hx.o.2.2.2.2
   have hir:ib∉[r]:=λhh=>by have:=HR.o ib (by simp[bD]);rw[zj.1 hh]at this;omega
   have HB1:=qd (HB.o.mod hm1 hir);have ug:=qd (show∀i∈its,eY w1 i.cb (if seen.contains (i.id-1)=true then⟨0,0,true⟩else i.c)from λk hk=>(HC.o k hk).mod hm1 (hcs k hk));have HE:=qd (JX (ug.o i hi));have HX:=qd hx.o;have HRc:=qd hrc;have HIi:=qd hi;have hw1:Mod (its.map It.cb) w w1:=HW.o.trans hm1 (λ_ h _=>h) (λq hq hl=>by rw[zj.1 hq]at hl;have:=HR2.o;omega);have HW1:=qd hw1;clear hx hm1 hir hcs hrc hi hic hw1;go_wp2_with fail;refine HE.o.mono ?_;rintro y w2 ⟨rfl,hc2,hm2⟩;have hi:=HIi.o;have hx:=HX.o;obtain⟨n1,n2,_⟩:=HH.o.VD hi;have hnr:r∉[i.cb]:=λhh=>HRc.o (by rw[zj.1 hh];exact QQ hi);have Di:=qd (hx.2.1.mod hm2 (λhh=>n1 (zj.1 hh)));have HB2:=qd (HB1.o.mod hm2 (λhh=>n2 (zj.1 hh)));have HI2:=qd ((hm2.block r (qi.1 hx.2.2.1).1 hnr).trans hx.2.2.1)
   have sO:=qd (show∀k∈its,eY w2 k.cb (if(seen.push (i.id-1)).contains (k.id-1)=true then⟨0,0,true⟩else k.c)from λk hk=>by
    by_cases hki:k.id=i.id
    ·obtain rfl:=um HH.o.nd hk hi hki;rw[if_pos (by simp)];exact hc2
    ·have a1:=HH.o.ids k hk;have a2:=HH.o.ids i hi
     have e1:(seen.push (i.id-1)).contains (k.id-1)=seen.contains (k.id-1):=by
      have:¬k.id-1=i.id-1:=by omega
      simp[this]
     rw[e1]
     exact(ug.o k hk).mod hm2 (λhh=>hki (by rw[HH.o.aeR hk hi (zj.1 hh)])))
   have HW2:=qd (HW1.o.trans hm2 (λ_ h _=>h) (λq hq _=>by rw[zj.1 hq];exact QQ hi));have XZ:=qd (show w2.rangeLeft mb r<wr.rangeLeft mb r by rw[ES Di.o HI2.o,ES HM.o HI.o];exact hx.2.2.2.1);clear hi hx n1 n2 hnr hm2 hc2;go_wp2;go_roundw
   all_goals first|exact⟨⟨_,HI2,Di,HB2,sO,HW2⟩,XZ.o⟩|exact⟨_,HI2,Di,HB2,sO,HW2⟩|exact XZ.o
end
end
section
variable {I Kk M b gv ib j mb : Nat} {its : List It} {H : Nat -> Nat} {a : Pool} {W0 w : World} {E : Nat -> Addr} {G ids : List Nat} {fK : bE}
theorem QI:∀q∈bD ib mb (its.eraseIdx j),q∈bD ib mb its:=λq hq=>by
 unfold bD at hq|-;simp only[zt]at hq|-;rcases hq with h|h|h
 ·exact .inl h
 ·exact .inr (.inl h)
 ·exact .inr (.inr (((List.eraseIdx_sublist its j).map It.cb).subset h))
theorem QJ:bD ib mb (its.map It.ended)=bD ib mb its:=by
 unfold bD;rw[js];rfl
theorem QK (h:∀(i:Nat) (N:Nd),a.Ns[i]?=some N->dY H N)(h32:a.Ns.length<=32):a.groups<=6144:=by
 have hs:∀l:List Nd,(∀N∈l,N.groups<=192)->(l.map Nd.groups).sum<=192*l.length:=λl=>by
  induction l with
  |nil=>simp
  |cons x l ih=>
   intro hx;have h1:=hx x (by simp);have h2:=ih λN hN=>hx N (by simp[hN]);simp only[ye,List.sum_cons,ZS];omega
 have:=hs a.Ns λN hN=>by
  obtain⟨i,hi⟩:=qs hN;exact MQ (h i N hi)
 unfold Pool.groups;omega
theorem gG.newC {K:Nat}{G0:List Nat}{w0:World}{C C':fJ}{GC fT:List Nat}{w':World}{a':Pool}{aL:List Nat}(h:gG W0 E H K M I b G0 w0 C GC mb gv w a ids its)(hc:gU W0 E H K M C'.cb fT w' a' aL)(hB:oH w' b C')(hk:C'.k=C.k/\C'.m=C.m/\C'.i=C.i/\C'.ib=C.ib)(hm:Mod [b] w w')(hn:∀q∈fT,q≠b/\q∉bD C.ib mb its/\w0.heap.size<=q):gG W0 E H K M I b G0 w0 C' fT mb gv w' a' aL its:=by
 obtain⟨k1,k2,k3,k5⟩:=hk;refine⟨hB,by rw[k1,k2,k3];exact h.cfg,hc,by rw[k5];exact h.lS.mod hm (λq hq hs=>h.apart.2.1 (zj.1 hs▸hq)),by rw[k5];exact h.b0,by rw[k5];exact⟨λhg=>(hn b hg).1 rfl,h.apart.2.1,λq hq hg=>(hn q hg).2.1 hq⟩,λq hq=> ?_,h.mod.within hm (λq hq=>by rw[zj.1 hq];exact h.sub b (aG.2 (.inl rfl))),h.qN⟩;rcases aG.1 hq with k|k|k
 ·exact h.sub q (aG.2 (.inl k))
 ·rw[k5]at k;exact h.sub q (aG.2 (.inr (.inl k)))
 ·exact .inr (hn q k).2.2
theorem abq {id cb:Nat}{c:jl}(h:kY W0 E H Kk M I b G w a ids its gv fK)(hj:its[j]?=some ⟨id,cb,c⟩):Calls Tryz.prog 45 #[pQ b,nI id] w λy w'=>y= .returned .nilIface/\qo W0 E H Kk M I b G w w' a ids (its.eraseIdx j) gv fK:=by
 obtain⟨C,GC,mb,hS,rfl,om⟩:=h;have hbk:=hS.blk.blk;unfold fJ.cells at hbk;have c16:=hbk.cell 16;simp only[gl]at c16;have HO:=qd (RZ hS.lS hj);have HS:=qd hS;have HQ:=qd om;clear hbk hS om hj;go_in;go_wp2_with fail;refine HO.o.mono ?_;rintro y w1 ⟨rfl,hi,hm⟩;have hs:=HS.o.VA hi hm (λq hq=> .inl (by unfold bD;simp at hq|-;exact .inr (.inl hq))) (λq hq=> .inl (QI q hq));have HE:=qd (show qo W0 E H Kk M I b (eD b C GC mb its) w w1 a ids (its.eraseIdx j) gv fK from HQ.o▸hs.to);clear hs hi hm HO;go_wp2;go_ret;exact⟨rfl,HE.o⟩
theorem N8 {id:Int}(h:kY W0 E H Kk M I b G w a ids its gv fK)(hn:∀i∈its,(i.id:Int)≠id)(h6:bY E W0 6):Calls Tryz.prog 45 #[pQ b,.int .i64 id] w λy w'=>y= .returned (.iface 333 (.pointer (some (E 6))))/\Below w.heap.size w w':=by
 obtain⟨C,GC,mb,hS,rfl,om⟩:=h;have hbk:=hS.blk.blk;unfold fJ.cells at hbk;have c16:=hbk.cell 16;simp only[gl]at c16;have h6w:bY E w 6:=h6.of_block hS.core.facts.2.2.2.2.2.2.2.2.2.2.2.below.block;have HO:=qd (Im hS.lS hn h6w);clear hbk hS om hn h6 h6w;go_in;go_wp2_with fail;refine HO.o.mono ?_;rintro y w1 ⟨rfl,hb⟩;go_wp2;go_ret;exact⟨rfl,hb⟩
theorem abr (h:kY W0 E H Kk M I b G w a ids its gv fK)(hM:1<=M)(hI:1<=I):Calls Tryz.prog 42 #[pQ b] w λy w'=>y= .returned undef/\∃jM,qo W0 E H Kk M I b G w w' nJ [] (its.map It.ended) gv jM:=by
 obtain⟨C,GC,mb,hS,rfl,om⟩:=h;have hbk:=hS.blk.blk;unfold fJ.cells at hbk;have c16:=hbk.cell 16;simp only[gl]at c16;have iV:=qd hS;obtain⟨g1,g2,g3⟩:=hS.cfg;have HKM:=qd hS.core.facts
 have hcf:jB (Kk:Int) (M:Int) (I:Int)=true:=by
  have h1:=hS.core.facts.2.2.2.2.2.2.2.1;have h2:=hS.core.facts.2.2.2.2.2.2.2.2.1;have h3:=hS.lS.few.1;unfold jB BA;simp;omega
 have hnb:=Qy H hS.core.facts.2.2.2.2.2.2.2.2.2.2.2 (Kk:Int) (M:Int) (I:Int) hcf Kk M I ⟨hS.core.facts.2.2.2.2.2.2.2.2.1,⟨hM,hS.core.facts.2.2.2.2.2.2.2.1⟩,rfl,rfl,rfl⟩;unfold eX bg at hnb;have jJ:=qd hnb;obtain⟨c0,c1,c2⟩:=hbk.c3;rw[g1]at c0;rw[g2]at c1;rw[g3]at c2;clear hnb hbk hS hcf g1 g2 g3 c16;go_in;go_wp2_with fail;refine jJ.o.mono ?_;rintro y w1 ⟨cb,rfl,hnew⟩;obtain⟨GN,hC,hsu,hmo⟩:=Yg hnew;have hb1:=hmo.yG;have hS1:=iV.o.below hb1;have HC:=qd hC;have zx:=qd (show∀q∈GN,w.heap.size<=q from λq hq=>(hsu q hq).elim (λk=>by cases k) (λk=>k));have HGl:=qd (show∀q∈GN,q<w1.heap.size from λq hq=>(hC.facts.2.2.2.2.2.2.2.2.2.2.1 q hq).1);have HSa:=qd hS1;have hbk:=hS1.blk.blk;unfold fJ.cells at hbk;have c3:=hbk.cell 3;simp only[gl]at c3;have hdr:=(Below.refl w1.heap.size w1).drew;have HGr:=qd (Yf (hS1.core.below hdr));have hSd:=hS1.below hdr;have HWa:=qd (abk hSd.blk a.groups (by have:=QK (H:=H) HKM.o.2.2.2.2.2.1 HKM.o.2.2.1;omega));have HSd:=qd hSd;have Gs:=qd hdr;clear hnew hC hsu hmo hb1 jJ c0 c1 c2 hbk hS1 hdr hSd;unfold bg at HGr;go_upto_region 2 with fail;refine rT (λ(w':World)=>w'.cell? ⟨b,3,none⟩=some (pQ C.cb)/\True) [8] ?_;have hHeld:=(⟨c3,trivial⟩:_/\_);refine vW 0 rfl ?_;refine vW 1 rfl ?_;refine vW 2 rfl ?_;refine vW 3 rfl ?_;refine vW 4 rfl ?_;refine vW 5 rfl ?_;refine vT 6 rfl ?_;refine nT 7 rfl λK hK=> ?_;go_simp;refine HGr.o.mono ?_;rintro y w2 ⟨rfl,rfl⟩;have hHeld:=(⟨c3,trivial⟩:_/\_);refine kO hK ?_;clear hK K;refine nT 8 rfl λK hK=> ?_
 go_simp;refine HWa.o.mono ?_;rintro y w3 ⟨d,hd,rfl,hB3,gQ⟩;refine kO hK ?_;clear hK K;refine aV (by kernel_rfl) ?_ _;have MU:=HSd.o.EO hB3 gQ ⟨rfl,rfl,rfl,rfl,rfl⟩;have hbw:=iV.o.blk.lt
 have hbG:b∉GN:=λhg=>by have:=zx.o b hg;omega
 have nZ:=qd ((HC.o.below Gs.o).mod gQ (λq hq=>by rw[zj.1 hq];exact⟨hbG,iV.o.b0.1⟩));have kS:=qd MU;have hbk:=hB3.blk;unfold fJ.cells at hbk;have c3:=hbk.cell 3;simp only[gl]at c3;have f3:=hbk.frozen 3;have hnew:=hbk.ak 3 (pQ cb);have hm:=(Mod.refl [b] w3).sl 3 (pQ cb);simp only[pt]at hnew;have jJ:=qd (show oH _ b {C with lf:=C.lf+d,cb:=cb} from⟨hnew,hB3.lf,hB3.gn⟩);have MO:=qd hm;have HBG:=qd hbG;clear MU hbw hbG hbk hnew hm hB3 gQ hd HGr HWa;go_upto_region 4 with fail;refine aY (F:=λv=>oH v b {C with lf:=C.lf+d,cb:=cb}/\Mod [b] w3 v) ⟨jJ.o,MO.o⟩ ?_;clear jJ MO c3 f3;rintro w4 ⟨hB4,dO⟩
 have Da:=kS.o.newC (C':={C with lf:=C.lf+d,cb:=cb}) (nZ.o.mod dO (λq hq=>by rw[zj.1 hq];exact⟨HBG.o,iV.o.b0.1⟩)) hB4 ⟨rfl,rfl,rfl,rfl⟩ dO (λq hq=>⟨λe=>HBG.o (e▸hq),λhh=>by
  have:=zx.o q hq;have:=iV.o.lS.fC q hh
  omega,zx.o q hq⟩)
 have bI:=qd (QH Da.lS);have Xw:=qd Da;have hbk:=hB4.blk;unfold fJ.cells at hbk;have c16:=hbk.cell 16;simp only[gl]at c16;clear Da hbk hB4 dO kS nZ;go_wp2_with fail;refine bI.o.mono ?_;rintro y w5 ⟨rfl,hit,dz⟩;have hS5:=Xw.o.VA hit dz (λq hq=> .inl (by unfold bD;simp only[zt];exact .inr (.inr hq))) (λq hq=> .inl (by rw[QJ]at hq;exact hq));have hwr:=Il hS5.blk (by have:=HKM.o.2.2.2.2.2.2.2.2.1;have h1:=iV.o.cfg.1;show 1<=C.k/\C.k<=64;rw[h1];omega) ⟨0,0,0⟩;unfold nL at hwr;have lD:=qd hwr;have OW:=qd hS5;clear hit dz hS5 hwr bI c16;go_wp2_with fail;refine lD.o.mono ?_;rintro y w6 ⟨rfl,lf,gn,ma,ml,last,all,hle,zu,nP⟩;have hS6:=OW.o.EO zu nP ⟨rfl,rfl,rfl,rfl,rfl⟩;have HE:=qd hS6.to;clear hS6 zu nP hle lD;go_wp2;go_end0;exact⟨rfl,_,HE.o⟩
end
section
variable {es es' : List ay} {key : Nat}
def sQ (es:List ay):Nat->Option Nat:=λk=>(look es k).map ay.val
theorem JZ (es:List ay)(key k:Nat):look (rest es key) k=if k=key then none else look es k:=by
 unfold look rest;rw[List.find?_filter];split
 ·rename_i h;subst h;rw[j9];intro x _;simp
 ·rename_i h;congr 1;funext x;by_cases hx:x.key=k
  ·simp[hx,h]
  ·simp[hx]
theorem VE (l:List ay)(e:ay)(k:Nat):look (l++[e]) k=(look l k).or (if e.key=k then some e else none):=by
 unfold look;rw[List.find?_append];congr 1;by_cases h:e.key=k
 ·simp[h]
 ·simp[h]
theorem MW (hn:(es.map ay.key).Nodup)(key:Nat):(rest es key).length=if(sQ es key).isSome then es.length-1 else es.length:=by
 unfold sQ
 cases hl:look es key with
 |none=>rw[EK hl];simp
 |some e=>
  obtain⟨h1,rfl⟩:=qj hl;have hp:=List.perm_cons_erase h1;have h2:=(EL hn hp).length_eq;rw[h2,K1 h1];simp
def noRoom (M:Nat)(o:Option Nat)(n:Nat):Bool:=o.isNone && decide (M<=n)
def CF (M:Nat)(R:Nat->Option Nat)(n k v:Nat):Nat->Option Nat:=if noRoom M (R k) n then R else λx=>if x=k then some v else R x
def AJ (M:Nat)(o:Option Nat)(n:Nat):Nat:=if o.isSome||decide (M<=n)then n else n+1
def rM (R:Nat->Option Nat)(k:Nat):Nat->Option Nat:=λx=>if x=k then none else R x
def Io (o:Option Nat)(n:Nat):Nat:=if o.isSome then n-1 else n
theorem acA {M:Nat}:uh M es key=noRoom M (sQ es key) es.length:=by
 unfold uh noRoom sQ
 cases look es key<;>rfl
theorem adr {M:Nat}{e:ay}(hn:(es.map ay.key).Nodup)(hn':(es'.map ay.key).Nodup)(hp:es'.Perm (KY M es e)):sQ es'=CF M (sQ es) es.length e.key e.val/\es'.length=AJ M (sQ es e.key) es.length:=by
 unfold KY at hp;unfold CF;rw[acA]at hp;by_cases hf:noRoom M (sQ es e.key) es.length=true
 ·rw[if_pos hf]at hp|-;refine⟨funext λk=> ?_, ?_⟩
  ·show(look es' k).map ay.val=_;rw[Ej hp hn'];rfl
  ·rw[hp.length_eq];unfold noRoom at hf;unfold AJ;rw[yk]at hf;rw[hf.2,Bool.or_true,if_pos rfl]
 ·rw[if_neg hf]at hp|-;refine⟨funext λk=> ?_, ?_⟩
  ·show(look es' k).map ay.val=_;rw[Ej hp hn',VE,JZ];by_cases hk:k=e.key
   ·rw[if_pos hk,if_pos hk.symm,if_pos hk];rfl
   ·rw[if_neg hk,if_neg (λh=>hk h.symm),if_neg hk,Option.or_none];rfl
  ·rw[hp.length_eq,ZD,MW hn];unfold noRoom at hf;unfold AJ
   cases hl:sQ es e.key with
   |none=>
    rw[hl]at hf;simp only[Option.isNone_none,J1]at hf;simp[hf]
   |some v=>
    have:0<es.length:=by
     cases es with
     |nil=>simp[sQ,look]at hl
     |cons=>simp
    simp;omega
theorem ads (hn:(es.map ay.key).Nodup)(hn':(es'.map ay.key).Nodup)(hp:es'.Perm (rest es key)):sQ es'=rM (sQ es) key/\es'.length=Io (sQ es key) es.length:=by
 refine⟨funext λk=> ?_,by rw[hp.length_eq,MW hn];rfl⟩;show(look es' k).map ay.val=_;rw[Ej hp hn',JZ];unfold rM;by_cases hk:k=key
 ·rw[if_pos hk,if_pos hk];rfl
 ·rw[if_neg hk,if_neg hk];rfl
def oQ (W0:World)(E:Nat->Addr)(H:Nat->Nat)(K M I b:Nat)(G:List Nat)(w:World)(R:Nat->Option Nat)(n:Nat)(its:List It)(gv:Nat):Prop:=
 ∃(a:Pool) (ids:List Nat) (fK:bE),kY W0 E H K M I b G w a ids its gv fK/\sQ a.ents=R/\a.ents.length=n
def xC (W0:World)(E:Nat->Addr)(H:Nat->Nat)(K M I b:Nat)(G:List Nat)(w w':World)(R:Nat->Option Nat)(n:Nat)(its:List It)(gv:Nat):Prop:=
 ∃G',oQ W0 E H K M I b G' w' R n its gv/\(∀q∈G',q∈G\/w.heap.size<=q)/\Mod G w w'
section
variable {W0 : World} {E : Nat -> Addr} {H : Nat -> Nat} {K M I b : Nat} {G : List Nat} {w w' : World} {R : Nat -> Option Nat} {n : Nat} {its : List It} {gv : Nat}
theorem oQ.below (h:oQ W0 E H K M I b G w R n its gv)(hb:Below w.heap.size w w'):oQ W0 E H K M I b G w' R n its gv:=by
 obtain⟨a,ids,fK,h1,h2⟩:=h;exact⟨a,ids,fK,h1.below hb,h2⟩
theorem oQ.fC (h:oQ W0 E H K M I b G w R n its gv):∀q∈G,q<w.heap.size/\W0.heap.size<=q:=by
 obtain⟨a,ids,fK,h1,_⟩:=h;exact h1.facts.1
theorem oQ.mod {S:List Nat}(h:oQ W0 E H K M I b G w R n its gv)(hm:Mod S w w')(hS:∀q∈S,q∉G/\W0.heap.size<=q):oQ W0 E H K M I b G w' R n its gv:=by
 obtain⟨a,ids,fK,h1,h2⟩:=h;exact⟨a,ids,fK,h1.mod hm hS,h2⟩
theorem oQ.env (h:oQ W0 E H K M I b G w R n its gv):Env W0 E w:=by
 obtain⟨a,ids,fK,h1,_⟩:=h;exact h1.facts.2.2.2.2.2.2.2.2.2
theorem oQ.least (h:oQ W0 E H K M I b G w R n its gv):n<=M/\M<=192:=by
 obtain⟨a,ids,fK,h1,_,h3⟩:=h;exact⟨h3▸h1.facts.2.2.1,h1.facts.2.2.2.1⟩
theorem xC.of {a:Pool}{ids:List Nat}{fK:bE}(h:qo W0 E H K M I b G w w' a ids its gv fK)(hR:sQ a.ents=R)(hn:a.ents.length=n):xC W0 E H K M I b G w w' R n its gv:=by
 obtain⟨F,h1,h2,h3⟩:=h;exact⟨F,⟨a,ids,fK,h1,hR,hn⟩,h2,h3⟩
theorem aeS (H:Nat->Nat)(hE:Env W0 E w)(k m i:Int)(hcf:jB k m i=true)(K M I:Nat)(hkm:(1<=K/\K<=64)/\(1<=M/\M<=192)/\k=(K:Int)/\m=(M:Int)/\i=(I:Int))(I8:1<=I/\I<=8):Calls Tryz.prog 17 #[eX k m i] w λy w'=>∃b G,y= .returned (.tuple #[pQ b,.nilIface])/\oQ W0 E H K M I b G w' (λ_=>none) 0 [] 0/\(∀q∈G,w.heap.size<=q)/\Below w.heap.size w w':=by
 refine(aeP H hE k m i hcf K M I hkm I8).mono ?_;rintro y w' ⟨b,G,rfl,h1,h2,h3⟩;exact⟨b,G,rfl,⟨_,_,_,h1,rfl,rfl⟩,h2,h3⟩
theorem aeT (h:oQ W0 E H K M I b G w R n its gv)(e:ay)(he:kH H e):Calls Tryz.prog 39 #[pQ b,nU e.key,nU e.val,nU e.hash] w λy w'=>
  y= .returned (eT E (if noRoom M (R e.key) n then 2 else 0))/\xC W0 E H K M I b G w w' (CF M R n e.key e.val) (AJ M (R e.key) n) its gv:=by
 obtain⟨a,ids,fK,h1,rfl,rfl⟩:=h;refine(aeO h1 e he).mono ?_;rintro y w' ⟨rfl,a',aL,jM,hto,hp,_⟩;obtain⟨F,hF,hs,hm⟩:=hto;have h2:=adr h1.facts.2.1 hF.facts.2.1 hp;exact⟨by unfold vG;rw[acA],F,⟨a',aL,jM,hF,h2.1,h2.2⟩,hs,hm⟩
theorem aeU (h:oQ W0 E H K M I b G w R n its gv)(key:Nat)(h64:H key<18446744073709551616):Calls Tryz.prog 21 #[pQ b,nU key,.int .u64 (H key:Int)] w λy w'=>y= .returned (.tuple #[.int .u64 (((R key).getD 0:Nat):Int),.bool (R key).isSome])/\xC W0 E H K M I b G w w' R n its gv:=by
 obtain⟨a,ids,fK,h1,rfl,rfl⟩:=h;refine(aeQ h1 key h64).mono ?_;rintro y w' ⟨rfl,jM,hto⟩;refine⟨?_,xC.of hto rfl rfl⟩;unfold Ik sQ
 cases look a.ents key<;>rfl
theorem Yy (h:oQ W0 E H K M I b G w R n its gv)(e:ay)(he:kH H e):Calls Tryz.prog 40 #[pQ b,nU e.key,nU e.hash] w λy w'=>y= .returned (.bool (R e.key).isSome)/\xC W0 E H K M I b G w w' (rM R e.key) (Io (R e.key) n) its gv:=by
 obtain⟨a,ids,fK,h1,rfl,rfl⟩:=h;refine(Yw h1 e he).mono ?_;rintro y w' ⟨rfl,a',aL,jM,hto,hp⟩;obtain⟨F,hF,hs,hm⟩:=hto;have h2:=ads h1.facts.2.1 hF.facts.2.1 hp;exact⟨by unfold sQ;cases look a.ents e.key<;>rfl,F,⟨a',aL,jM,hF,h2.1,h2.2⟩,hs,hm⟩
theorem aeV (h:oQ W0 E H K M I b G w R n its gv):Calls Tryz.prog 41 #[pQ b] w λy w'=>y= .returned (nI n)/\w=w':=by
 obtain⟨a,ids,fK,h1,rfl,rfl⟩:=h;exact aeM h1
end
end
section
variable {j key m : Nat} {es : List ay} {e : ay}
def agF (es:List ay)(key:Nat)(y:Int):Prop:=(∃(i:Nat) (e:ay),es[i]?=some e/\e.key=key/\y=(i:Int)/\∀k,k<i->∀e',es[k]?=some e'->e'.key≠key)\/((∀e∈es,e.key≠key)/\y= -1)
end
section
variable {es : List ay} {j key : Nat} {e : ay}
def without (es:List ay)(key j:Nat):List ay:=(es.take j).filter λx=>x.key !=key
end
section
section
variable {w w' : World} {base mb M : Nat} {es : List ay} {R : List Nat}
end
def cutAt (y:Option ay)(hi:Nat):Option ay:=match y with|none=>none|some m=>if m.hash<=hi then some m else none
end
section
variable {l : List ay} {m : ay} {b base : Nat} {w : World} {v : Value}
def Asc (l:List ay):Prop:=l.Pairwise λx y=>bO x y=true
theorem Asc.nodup (h:Asc l):l.Nodup:=h.imp λhxy e=>by rw[e,Aw]at hxy;cases hxy
theorem abt (h:Asc l)(hm:∀e∈l,bO e m=true):Asc (l++[m]):=List.pairwise_append.2 ⟨h,List.pairwise_singleton _ _,λx hx y hy=>by rw[zj.1 hy];exact hm x hx⟩
def below_ (hs:List Nat)(b:Nat):Nat:=(hs.filter λh=>decide (h<b)).length
theorem x9 (hs:List Nat){a:Nat}(h:a<=b):below_ hs a<=below_ hs b:=by
 unfold below_
 induction hs with
 |nil=>simp
 |cons x l ih=>
  simp only[xf];by_cases h1:x<a
  ·rw[if_pos (by simpa using h1),if_pos (by simp;omega)];simp only[ZS];omega
  ·rw[if_neg (by simpa using h1)]
   split<;>(try simp only[ZS])<;>omega
theorem CG {hs:List Nat}{a x:Nat}(hx:x∈hs)(h1:a<=x)(h2:x<b):below_ hs a+1<=below_ hs b:=by
 obtain⟨s,t,rfl⟩:=List.append_of_mem hx;have g1:=x9 s (qf h1 (Nat.le_of_lt h2));have g2:=x9 t (qf h1 (Nat.le_of_lt h2));unfold below_ at g1 g2|-;rw[kB,kB,xf,xf,if_neg (by simp;omega),if_pos (by simp;omega)];simp only[ZD,ZS];omega
theorem below_le (hs:List Nat)(b:Nat):below_ hs b<=hs.length:=List.length_filter_le _ _
structure mM (es:List ay)(hs:List Nat)(n:Nat)(out:List ay)(key hash:Nat):Prop where
 qO:Asc out
 mem:∀e,e∈out↔e∈es/\bO e ⟨key,0,hash⟩=true
 cnt:n<=out.length+below_ hs hash
section
variable {es out : List ay} {hs : List Nat} {n key hash hi : Nat}
theorem mM.start (es:List ay)(hs:List Nat):mM es hs 0 [] 0 0:=⟨.nil,λe=>by simp[bO],Q4 _⟩
theorem MX {l':List ay}(hn:l.Nodup)(hs:∀x∈l,x∈l'):l.length<=l'.length:=by
 induction l generalizing l' with
 |nil=>exact Q4 _
 |cons x l ih=>
  rw[qa]at hn;obtain⟨s,t,rfl⟩:=List.append_of_mem (hs x (by simp))
  have h1:=ih (l':=s++t) hn.2 (λy hy=>by
   have:=hs y (by simp[hy]);simp only[Zs,zt]at this|-;rcases this with h|h|h
   ·exact .inl h
   ·rw[h]at hy;exact absurd hy hn.1
   ·exact .inr h)
  simp only[ZD,ZS]at h1|-;omega
theorem mM.len (h:mM es hs n out key hash):out.length<=es.length:=MX h.qO.nodup (λe he=>((h.mem e).1 he).1)
theorem mM.few (h:mM es hs n out key hash)(h1:es.length<=192)(h2:hs.length<=32):n<=224:=by
 have:=h.cnt;have:=h.len;have:=below_le hs hash;omega
theorem mM.some_ (h:mM es hs n out key hash)(hn:(es.map ay.key).Nodup)(hm:ig ⟨key,0,hash⟩ (upto es hi) (some m)):mM es hs (n+1) (out++[m]) (m.key+1) m.hash/\(∀e∈out,bO e m=true)/\m.hash<=hi/\m∈es:=by
 obtain⟨m1,m2⟩:=oP.1 hm.1
 have hlt:∀e∈out,bO e m=true:=λe he=>by
  have h1:=((h.mem e).1 he).2;have h2:=hm.2.1;simp[bO]at h1 h2|-;omega
 have hh:=MR hm.2.1;refine⟨⟨abt h.qO hlt,λe=>⟨λhe=> ?_,λhe=> ?_⟩, ?_⟩,hlt,m2,m1⟩
 ·rcases Zs.1 he with h1|h1
  ·refine⟨((h.mem e).1 h1).1, ?_⟩;have:=hlt e h1;simp[bO]at this|-;omega
  ·rw[zj.1 h1];exact⟨m1,by simp[bO]⟩
 ·rw[Zs,zj]
  cases hl:bO e ⟨key,0,hash⟩with
  |true=>exact .inl ((h.mem e).2 ⟨he.1,hl⟩)
  |false=>
   right;have h1:=he.2;have h2:=hm.2.2 e (oP.2 ⟨he.1,by simp[bO]at h1;omega⟩) hl
   have hk:e.key=m.key:=by simp[bO]at h1 h2;omega
   have e1:=jI hn he.1;have e2:=jI hn m1;rw[hk,e2]at e1;exact(QP e1).symm
 ·have:=h.cnt;have:=x9 hs hh;simp only[ZD,ZS,yv];omega
theorem mM.none_ (h:mM es hs n out key hash)(hm:ig ⟨key,0,hash⟩ (upto es hi) none)(h1:hash<=hi)(h2:hi∈hs):mM es hs (n+1) out 0 (hi+1):=by
 refine⟨h.qO,λe=>⟨λhe=> ?_,λhe=> ?_⟩, ?_⟩
 ·have:=(h.mem e).1 he;refine⟨this.1, ?_⟩;have h3:=this.2;simp[bO]at h3|-;omega
 ·have h3:=he.2;exact(h.mem e).2 ⟨he.1,hm e (oP.2 ⟨he.1,by simp[bO]at h3;omega⟩)⟩
 ·have:=h.cnt;have:=CG (b:=hi+1) h2 h1 (by omega);omega
end
end
