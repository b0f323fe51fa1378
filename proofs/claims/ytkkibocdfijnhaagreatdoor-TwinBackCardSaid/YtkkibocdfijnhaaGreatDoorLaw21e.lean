/- The iterators that are open: At of one that is not there, Close, EndAll. No statement of the claim. -/
import Derived.Test.YtkkibocdfijnhaaGreatDoorRmI
import Derived.Test.YtkkibocdfijnhaaGreatDoorLaneP
import Derived.Maps.RangeWalk
import Derived.Test.YtkkibocdfijnhaaGreatDoorSqM
import Derived.Test.YtkkibocdfijnhaaGreatDoorCoO
import Derived.Test.YtkkibocdfijnhaaGreatDoorRmN
import Derived.Test.YtkkibocdfijnhaaGreatDoorCoDA
import Derived.Test.YtkkibocdfijnhaaGreatDoorCoCP
import Derived.Test.YtkkibocdfijnhaaGreatDoorCoT
import Derived.Test.YtkkibocdfijnhaaGreatDoorCoBV
namespace Go.Proofs.YtkkibocdfijnhaaGreatDoor
set_option maxRecDepth 100000
set_option maxHeartbeats 4000000
open Go.RowKit bV Go.MapKept
open Go.ChangeMaps (setBlock heap_setBlock_same heap_setBlock_other)
section
variable {ops : Array Oper} {rest : List Oper} {o : Oper} {a : Act} {Q : Exit → Act → World → Prop} {r : Nat} {seen : Array Nat} {E : Nat → Addr} {w2 : World}
theorem Dt {α β:Type}(f:α→β):∀(l:List α) (j:Nat),(l.map f).eraseIdx j=(l.eraseIdx j).map f
 | [],_=>by simp
 |x::l,0=>rfl
 |x::l,j+1=>by simp[Dt f l j]
section
variable {P : Program} {w w' : World} {b g : Nat} {l : List (Nat × Nat)} {t k e : TypeId}
theorem gZ.del (h:gZ w b g l)(ht:P.underlying t=some (.map k e))(hk:P.underlying k=some (.int .i64)){j:Nat}{p:Nat×Nat}(hj:l[j]?=some p)(hn:(l.map Prod.fst).Nodup)(ty:TypeId):
  (Builtin.delete_ #[t,k] ty #[.map (some b),nI p.1]).run P w= .ok (.tuple #[]) (setBlock w b (.map ((l.eraseIdx j).map gq).toArray g)):=by
 obtain⟨a,h1,h2,h4⟩:=Bb (p.1:Int) l 0;have h3:=run_findKey (P:=P) (w:=w) hk h1
 cases a with
 |none=>
  have:mF l (p.1:Int)=none:=by cases hf:mF l (p.1:Int)with|none=>rfl|some q=>rw[hf]at h2;cases h2
  exact absurd rfl (wH.1 this p (List.mem_of_getElem? hj))
 |some q=>
  obtain⟨i,v⟩:=q;obtain⟨j',h5,h6⟩:=h4 _ rfl
  have hij:i=j:=by
   simp only[Nat.zero_add]at h5;rw[List.getElem?_map]at h6
   cases hq:l[j']? with
   |none=>rw[hq]at h6;cases h6
   |some q'=>
    rw[hq]at h6
    have e0:(q'.1:Int)=(p.1:Int):=by simpa using h6
    have e1:q'.1=p.1:=by omega
    have a1:(l.map Prod.fst)[j']?=some p.1:=by rw[List.getElem?_map,hq];simp[e1]
    have a2:(l.map Prod.fst)[j]?=some p.1:=by rw[List.getElem?_map,hj];rfl
    obtain⟨b1,b2⟩:=List.getElem?_eq_some_iff.1 a1;obtain⟨b3,b4⟩:=List.getElem?_eq_some_iff.1 a2;rw[h5];have hp:=List.pairwise_iff_getElem.1 hn;rcases Nat.lt_trichotomy j' j with z|z|z
    ·exact absurd (b2.trans b4.symm) (hp _ _ b1 b3 z)
    ·exact z
    ·exact absurd (b4.trans b2.symm) (hp _ _ b3 b1 z)
  subst hij;simp[Builtin.delete_,run_underlying ht,Go.MapKept.run_getObj_map (show w.heap[b]?=some (.map (l.map gq).toArray g)from h),run_checkKey hk D5,h3,Go.MapKept.run_setObj_map _ (show w.heap[b]?=some (.map (l.map gq).toArray g)from h),Result.andThen,setBlock,Dt]
theorem OE (hg:o.guard=none)(it:Operand)(hop:o.op=Op.next it false)(hl:∀p∈l,1≤p.1∧p.1≤g)(hnd:(l.map Prod.fst).Nodup)(hit:a.eval it=pQ r)(h:gZ w b g l)(hr:w.heap[r]?=some (.mapIter (some b) g seen g))(hDone:Hid (∀p∈l,seen.contains (p.1-1)=true)→wpList P ops Q rest (a.put o.dst (.tuple #[.bool false])) w)(hMore:∀(n c:Nat) (w':World),Hid ((n,c)∈l∧gZ w' b g l∧w'.heap[r]?=some (.mapIter (some b) g (seen.push (n-1)) g)∧(leftOf (l.map gq).toArray (seen.push (n-1))).size<(leftOf (l.map gq).toArray seen).size∧Mod [r] w w')→
   (Instr.entry (pQ r)).run P w'= .ok (.tuple #[nI n,pQ c]) w'→wpList P ops Q rest (a.put o.dst (.tuple #[.bool true,nI n,pQ c])) w'):
  wpList P ops Q (o::rest) a w:=by
 refine wpList_plain hg fun K' hK'=> ?_;unfold Oper.wp
 have hne:r≠b:=fun e=>by
  have h1:w.heap[b]?=some (.map (l.map gq).toArray g):=h;rw[←e,hr]at h1;cases h1
 have hold:∀x∈((l.map gq).toArray).toList,x.born<g:=fun x hx=>by
  obtain⟨p,hp,rfl⟩:∃p∈l,gq p=x:=by simpa using hx
  have:=hl p hp;show p.1-1<g;omega
 have hbn:((l.map gq).toArray.toList.map (·.born)).Nodup:=by
  have e1:(l.map gq).toArray.toList.map (·.born)=l.map fun p=>p.1-1:=by simp[gq,Function.comp_def]
  rw[e1];unfold List.Nodup at hnd⊢;rw[List.pairwise_map]at hnd⊢;exact hnd.imp_of_mem fun ha hb hne e=>hne (by have:=hl _ ha;have:=hl _ hb;omega)
 rcases run_next_at (P:=P) w o.type r b g g seen (l.map gq).toArray g hr h hold (Nat.le_refl _)with⟨h0,hrun⟩|⟨x,hx,w1,hal,hrun⟩
 ·simp[execOp,hop,hit,hrun,Result.andThen];exact hK' _ _ (hDone<|qd fun p hp=>all_seen _ seen h0 (gq p) (List.mem_map_of_mem hp))
 ·obtain⟨hem,hes⟩:=mem_left hx
  obtain⟨p,hp,rfl⟩:∃p∈l,gq p=x:=by simpa using hem
  have hr1:w1.heap[r]?=some (.mapIter (some b) g seen g):=by rcases hal with rfl|rfl<;>exact hr
  have hb1:w1.heap[b]?=some (.map (l.map gq).toArray g):=by rcases hal with rfl|rfl<;>exact h
  have hset:=heap_set (o':= .mapIter (some b) g (seen.push (gq p).born) g) hr1;have hb':=(hset.2 b (fun e1=>hne e1.symm)).trans hb1
  have hmod:Mod [r] w (setBlock w1 r (.mapIter (some b) g (seen.push (gq p).born) g)):=by
   rcases hal with rfl|rfl
   ·exact⟨rfl,rfl,rfl,by simp[setBlock],fun k _ hn=>hset.2 k (fun e=>hn (by simp[e]))⟩
   ·exact⟨rfl,rfl,rfl,by simp[setBlock],fun k _ hn=>hset.2 k (fun e=>hn (by simp[e]))⟩
  simp[execOp,hop,hit,hrun,Result.andThen];exact hK' _ _ (hMore p.1 p.2 _ (qd ⟨hp,hb',hset.1,left_shrinks _ seen _ hx,hmod⟩) (run_entry_at _ r b g seen _ g (gq p) hset.1 hb' hem hbn))
theorem LJ (hg:o.guard=none)(m:Operand)(hop:o.op=Op.range t m)(ht:P.underlying t=some (.map k e))(hm:a.eval m= .map (some b))(h:gZ w b g l)(hK:wpList P ops Q rest (a.put o.dst (pQ w.heap.size)) (w.alloc (.mapIter (some b) g #[] g))):wpList P ops Q (o::rest) a w:=by
 refine wpList_plain hg fun K' hK'=> ?_;have hrun:=run_range_map w t k e b (l.map gq).toArray g ht h;unfold Oper.wp;simp[execOp,hop,hm,hrun,Result.andThen];exact hK' _ _ hK
end
theorem Du {w:World}{b g:Nat}{l:List (Nat×Nat)}{m:Option Nat}{s c:Nat}(h:gZ w b g l)(hr:w.heap[r]?=some (.mapIter m s seen c)):w.rangeLeft b r=(leftOf (l.map gq).toArray seen).size:=by
 have h1:w.heap[b]?=some (.map (l.map gq).toArray g):=h;unfold World.rangeLeft;rw[h1,hr]
section
variable {w : World} {ib mb most given : Nat} {its : List It}
theorem KS (its:List It):(fK its).map Prod.fst=its.map It.id:=by unfold fK;rw[List.map_map];rfl
theorem fF.SL (h:fF w ib mb most given its){i:It}(hi:i∈its):mb≠i.cb∧ib≠i.cb∧ib≠mb:=by
 have:=h.nf;unfold bB at this;rw[List.nodup_cons,List.nodup_cons]at this;have hm:=List.mem_map_of_mem (f:=It.cb) hi;exact⟨fun e=>this.2.1 (e▸hm),fun e=>this.1 (List.mem_cons_of_mem _ (e▸hm)),fun e=>this.1 (by rw[e];simp)⟩
theorem fF.acI (h:fF w ib mb most given its){i j:It}(hi:i∈its)(hj:j∈its)(e:i.cb=j.cb):i=j:=by
 have hn:(its.map It.cb).Nodup:=by
  have:=h.nf;unfold bB at this;rw[List.nodup_cons,List.nodup_cons]at this;exact this.2.2
 clear h
 induction its with
 |nil=>cases hi
 |cons x l ih=>
  rw[List.map_cons,List.nodup_cons]at hn;rcases List.mem_cons.1 hi with h1|h1
  ·rcases List.mem_cons.1 hj with h2|h2
   ·rw[h1,h2]
   ·exact absurd (show x.cb∈l.map It.cb from by rw[←h1,e];exact List.mem_map_of_mem h2) hn.1
  ·rcases List.mem_cons.1 hj with h2|h2
   ·exact absurd (show x.cb∈l.map It.cb from by rw[←h2,←e];exact List.mem_map_of_mem h1) hn.1
   ·exact ih h1 h2 hn.2
theorem BN {id:Int}(h:fF w ib mb most given its)(hn:∀i∈its,(i.id:Int)≠id)(h6:bX E w 6):Calls Tryz.prog 92 #[pQ ib,.int .i64 id] w fun y w'=>y= .returned (.tuple #[.pointer none,.iface 318 (.pointer (some (E 6)))])∧Below w.heap.size w w':=by
 have hl:=h.map.look (P:=Tryz.prog) (t:=133) Tryz.underlying133 Tryz.underlying3 (QN _) id
 have hf:mF (fK its) id=none:=wH.2 fun p hp=>by
  obtain⟨i,hi,rfl⟩:=List.mem_map.1 hp;exact hn i hi
 rw[hf]at hl;unfold bX at h6;simp only[gE]at h6;obtain⟨c0,c1,c2⟩:=h.blk.c3;unfold OB at hl;simp only[Option.map_none,Option.isSome_none]at hl;clear h hn hf;go_in;go_upto_region 3 with fail;go_region;go_wp2;refine bodyPost_ret (v:= .tuple #[.pointer none,.iface 318 (.pointer (some (E 6)))]) (by simp[results,Tryz.results92,go_sem]) rfl ⟨rfl,(Below.refl _ _).drew⟩
theorem fF.erased {j:Nat}(h:fF w ib mb most given its)(hb:aj w2 ib 135 #[nI most,nI given,.map (some mb)])(hm:gZ w2 mb given ((fK its).eraseIdx j))(hmod:Mod [mb] w w2):fF w2 ib mb most given (its.eraseIdx j):=by
 have hs:=List.eraseIdx_sublist its j;refine⟨hb,by unfold fK at hm⊢;rw[←Dt];exact hm,fun i hi=>(h.cur i (hs.subset hi)).mod hmod (fun hh=>(h.SL (hs.subset hi)).1 (List.mem_singleton.1 hh).symm),fun i hi=>h.ids i (hs.subset hi),h.nd.sublist (hs.map _), ?_,h.few.1,by have:=hs.length_le;have:=h.few.2;omega⟩;have:=h.nf;unfold bB at this⊢;exact this.sublist (((hs.map _).cons_cons _).cons_cons _)
theorem PK {j id cb:Nat}{c:iU}(h:fF w ib mb most given its)(hj:its[j]?=some ⟨id,cb,c⟩):Calls Tryz.prog 67 #[pQ ib,nI id] w fun y w'=>y= .returned .nilIface∧fF w' ib mb most given (its.eraseIdx j)∧Mod [mb] w w':=by
 have iQ:=qd (OC h (List.mem_of_getElem? hj))
 have hj2:(fK its)[j]?=some (id,cb):=by unfold fK;rw[List.getElem?_map,hj];rfl
 have hdel:=fun ty=>h.map.del (P:=Tryz.prog) (t:=133) Tryz.underlying133 Tryz.underlying3 hj2 (by rw[KS];exact h.nd) ty;have hms:=h.map.ak ((fK its).eraseIdx j) given;have hmm:=h.map.zo (.map (((fK its).eraseIdx j).map gq).toArray given);obtain⟨W2,hW2⟩:∃W2,W2=setBlock w mb (.map (((fK its).eraseIdx j).map gq).toArray given):=⟨_,rfl⟩;rw[←hW2]at hms hmm;have him:ib∉[mb]:=fun hh=>(h.SL (List.mem_of_getElem? hj)).2.2 (List.mem_singleton.1 hh);have HE:=qd (And.intro (h.erased (j:=j) (h.blk.mod hmm him) hms hmm) hmm);have c2:=h.blk.cell 2;simp only[gl]at c2 hdel;simp only[←hW2]at hdel;clear h hj hj2 hms hmm him hW2;go_in;go_wp2_with fail;refine iQ.out.mono ?_;rintro y w1 ⟨rfl,rfl⟩;go_wp2;go_ret;exact⟨rfl,HE.out⟩
theorem FV {id:Int}(h:fF w ib mb most given its)(hn:∀i∈its,(i.id:Int)≠id)(h6:bX E w 6):Calls Tryz.prog 67 #[pQ ib,.int .i64 id] w fun y w'=>y= .returned (.iface 318 (.pointer (some (E 6))))∧Below w.heap.size w w':=by
 have iQ:=qd (BN h hn h6);clear h hn h6;go_in;go_wp2_with fail;refine iQ.out.mono ?_;rintro y w1 ⟨rfl,hb⟩;go_wp2;go_ret;exact⟨rfl,hb⟩
def It.ended (i:It):It:=⟨i.id,i.cb,⟨0,0,true⟩⟩
theorem fF.ended (h:fF w ib mb most given its)(hb:aj w2 ib 135 #[nI most,nI given,.map (some mb)])(hm:gZ w2 mb given (fK its))(hc:∀i∈its,eH w2 i.cb ⟨0,0,true⟩):fF w2 ib mb most given (its.map It.ended):=by
 have e1:(its.map It.ended).map It.cb=its.map It.cb:=by rw[List.map_map];rfl
 have e2:(its.map It.ended).map It.id=its.map It.id:=by rw[List.map_map];rfl
 refine⟨hb,by unfold fK at hm⊢;rw[List.map_map];exact hm,fun i hi=> ?_,fun i hi=> ?_,by rw[e2];exact h.nd,by have:=h.nf;unfold bB at this⊢;rw[e1];exact this,h.few.1,by rw[List.length_map];exact h.few.2⟩
 ·obtain⟨i',hi',rfl⟩:=List.mem_map.1 hi;exact hc i' hi'
 ·obtain⟨i',hi',rfl⟩:=List.mem_map.1 hi;exact h.ids i' hi'
theorem OG (h:fF w ib mb most given its):Calls Tryz.prog 64 #[pQ ib] w fun y w'=>y= .returned undef∧fF w' ib mb most given (its.map It.ended)∧Mod (its.map It.cb) w w':=by
 have c2:=h.blk.cell 2;simp only[gl]at c2;have HH:=qd h;have HL:=qd (show(∀p∈fK its,1≤p.1∧p.1≤given)∧((fK its).map Prod.fst).Nodup from⟨fun p hp=>by obtain⟨i,hi,rfl⟩:=List.mem_map.1 hp;exact h.ids i hi,by rw[KS];exact h.nd⟩);have hb0:=(Below.refl w.heap.size w).alloc (Nat.le_refl _) (.mapIter (some mb) given #[] given);have hm0:=Mod.of_below hb0 [];have HM:=qd (h.map.mod hm0 (by simp));have HB:=qd (h.blk.mod hm0 (by simp))
 have HC:=qd (show∀i∈its,eH (w.alloc (.mapIter (some mb) given #[] given)) i.cb (if(#[]:Array Nat).contains (i.id-1)=true then⟨0,0,true⟩else i.c)from fun i hi=>by
  rw[if_neg (by simp)]
  exact(h.cur i hi).mod hm0 (by simp))
 have HW:=qd (Mod.of_below hb0 (its.map It.cb));have hit:=heap_alloc_new w (.mapIter (some mb) given #[] given);obtain⟨r,hr⟩:∃r,r=w.heap.size:=⟨_,rfl⟩;have HR:=qd (show∀q∈bB ib mb its,q<r from fun q hq=>by rw[hr];exact h.fM q hq);have HR2:=qd (show w.heap.size≤r by omega);have hmp:=h.map;clear h hb0 hm0;go_in;go_wp2_with (at_range;refine LJ rfl _ rfl Tryz.underlying133 rfl hmp ?_);clear hmp c2;rw[←hr]at hit⊢;obtain⟨W,hW⟩:∃W,W=w.alloc (.mapIter (some mb) given #[] given):=⟨_,rfl⟩;rw[←hW]at HM HB HC HW hit⊢;have HI:=qd hit;clear hW hit hr;go_frame;go_loopw [3] (fun _ wr=>∃seen:Array Nat,Hid (wr.heap[r]?=some (.mapIter (some mb) given seen given))∧Hid (gZ wr mb given (fK its))∧Hid (aj wr ib 135 #[nI most,nI given,.map (some mb)])∧Hid (∀i∈its,eH wr i.cb (if seen.contains (i.id-1)=true then⟨0,0,true⟩else i.c))∧Hid (Mod (its.map It.cb) w wr)) (fun _ wr=>wr.rangeLeft mb r)
 case atStart=>exact⟨_,HI,HM,HB,HC,HW⟩
 case round=>
  clear HI HM HB HC HW;obtain⟨seen,HI,HM,HB,HC,HW⟩:=hrel;go_wp2_with (at_next;refine OE rfl _ rfl HL.out.1 HL.out.2 rfl HM.out HI.out ?_ ?_)
  ·intro hd;go_wp2;go_end0
   exact⟨rfl,HH.out.ended HB.out HM.out (fun i hi=>by
    have h1:=HC.out i hi
    rwa [if_pos (by have h2:=hd.out i.id i.cb (List.mem_map.2 ⟨i,hi,rfl⟩);simpa using h2)]at h1),HW.out⟩
  ·intro n cb w1 hx hen;obtain⟨i,hi,hic⟩:=List.mem_map.1 hx.out.1;obtain⟨rfl,rfl⟩:=Prod.mk.inj hic
   have hrc:r∉its.map It.cb:=fun hh=>by have:=HR.out r (by unfold bB;simp only[List.mem_cons];exact .inr (.inr hh));omega
   have hcs:∀k∈its,k.cb∉[r]:=fun k hk hh=>hrc (List.mem_singleton.1 hh▸List.mem_map_of_mem hk);have hm1:=hx.out.2.2.2.2
   have hir:ib∉[r]:=fun hh=>by have:=HR.out ib (by simp[bB]);rw[List.mem_singleton.1 hh]at this;omega
   have HB1:=qd (HB.out.mod hm1 hir);have sj:=qd (show∀i∈its,eH w1 i.cb (if seen.contains (i.id-1)=true then⟨0,0,true⟩else i.c)from fun k hk=>(HC.out k hk).mod hm1 (hcs k hk));have HE:=qd (Ik (sj.out i hi));have HX:=qd hx.out;have HRc:=qd hrc;have HIi:=qd hi;have hw1:Mod (its.map It.cb) w w1:=HW.out.trans hm1 (fun _ h _=>h) (fun q hq hl=>by rw[List.mem_singleton.1 hq]at hl;have:=HR2.out;omega);have HW1:=qd hw1;clear hx hm1 hir hcs hrc hi hic hw1;go_wp2_with fail;refine HE.out.mono ?_;rintro y w2 ⟨rfl,hc2,hm2⟩;have hi:=HIi.out;have hx:=HX.out;obtain⟨n1,n2,_⟩:=HH.out.SL hi;have hnr:r∉[i.cb]:=fun hh=>HRc.out (by rw[List.mem_singleton.1 hh];exact List.mem_map_of_mem hi);have Nj:=qd (hx.2.1.mod hm2 (fun hh=>n1 (List.mem_singleton.1 hh)));have HB2:=qd (HB1.out.mod hm2 (fun hh=>n2 (List.mem_singleton.1 hh)));have HI2:=qd ((hm2.block r (Array.getElem?_eq_some_iff.1 hx.2.2.1).1 hnr).trans hx.2.2.1)
   have ru:=qd (show∀k∈its,eH w2 k.cb (if(seen.push (i.id-1)).contains (k.id-1)=true then⟨0,0,true⟩else k.c)from fun k hk=>by
    by_cases hki:k.id=i.id
    ·obtain rfl:=sG HH.out.nd hk hi hki;rw[if_pos (by simp)];exact hc2
    ·have a1:=HH.out.ids k hk;have a2:=HH.out.ids i hi
     have e1:(seen.push (i.id-1)).contains (k.id-1)=seen.contains (k.id-1):=by
      have:¬k.id-1=i.id-1:=by omega
      simp[this]
     rw[e1]
     exact(sj.out k hk).mod hm2 (fun hh=>hki (by rw[HH.out.acI hk hi (List.mem_singleton.1 hh)])))
   have HW2:=qd (HW1.out.trans hm2 (fun _ h _=>h) (fun q hq _=>by rw[List.mem_singleton.1 hq];exact List.mem_map_of_mem hi));have Ob:=qd (show w2.rangeLeft mb r<wr.rangeLeft mb r by rw[Du Nj.out HI2.out,Du HM.out HI.out];exact hx.2.2.2.1);clear hi hx n1 n2 hnr hm2 hc2;go_wp2;go_roundw
   all_goals first|exact⟨⟨_,HI2,Nj,HB2,ru,HW2⟩,Ob.out⟩|exact⟨_,HI2,Nj,HB2,ru,HW2⟩|exact Ob.out
end
end
section
variable {I Kk M b gv ib j mb : Nat} {its : List It} {H : Nat → Nat} {a : Pool} {W0 w : World} {E : Nat → Addr} {G ids : List Nat} {fC : bC}
theorem OH:∀q∈bB ib mb (its.eraseIdx j),q∈bB ib mb its:=fun q hq=>by
 unfold bB at hq⊢;simp only[List.mem_cons]at hq⊢;rcases hq with h|h|h
 ·exact .inl h
 ·exact .inr (.inl h)
 ·exact .inr (.inr (((List.eraseIdx_sublist its j).map It.cb).subset h))
theorem OI:bB ib mb (its.map It.ended)=bB ib mb its:=by
 unfold bB;rw[List.map_map];rfl
theorem OJ (h:∀(i:Nat) (N:Nd),a.Ns[i]?=some N→dV H N)(h32:a.Ns.length≤32):a.groups≤6144:=by
 have hs:∀l:List Nd,(∀N∈l,N.groups≤192)→(l.map Nd.groups).sum≤192*l.length:=fun l=>by
  induction l with
  |nil=>simp
  |cons x l ih=>
   intro hx;have h1:=hx x (by simp);have h2:=ih fun N hN=>hx N (by simp[hN]);simp only[List.map_cons,List.sum_cons,List.length_cons];omega
 have:=hs a.Ns fun N hN=>by
  obtain⟨i,hi⟩:=List.getElem?_of_mem hN;exact KP (h i N hi)
 unfold Pool.groups;omega
theorem fU.newC {K:Nat}{G0:List Nat}{w0:World}{C C':fB}{GC fG:List Nat}{w':World}{a':Pool}{aL:List Nat}(h:fU W0 E H K M I b G0 w0 C GC mb gv w a ids its)(hc:gF W0 E H K M C'.cb fG w' a' aL)(hB:nD w' b C')(hk:C'.k=C.k∧C'.m=C.m∧C'.i=C.i∧C'.ib=C.ib)(hm:Mod [b] w w')(hn:∀q∈fG,q≠b∧q∉bB C.ib mb its∧w0.heap.size≤q):fU W0 E H K M I b G0 w0 C' fG mb gv w' a' aL its:=by
 obtain⟨k1,k2,k3,k5⟩:=hk;refine⟨hB,by rw[k1,k2,k3];exact h.cfg,hc,by rw[k5];exact h.kL.mod hm (fun q hq hs=>h.apart.2.1 (List.mem_singleton.1 hs▸hq)),by rw[k5];exact h.b0,by rw[k5];exact⟨fun hg=>(hn b hg).1 rfl,h.apart.2.1,fun q hq hg=>(hn q hg).2.1 hq⟩,fun q hq=> ?_,h.mod.within hm (fun q hq=>by rw[List.mem_singleton.1 hq];exact h.sub b (aG.2 (.inl rfl))),h.pK⟩;rcases aG.1 hq with k|k|k
 ·exact h.sub q (aG.2 (.inl k))
 ·rw[k5]at k;exact h.sub q (aG.2 (.inr (.inl k)))
 ·exact .inr (hn q k).2.2
theorem YM {id cb:Nat}{c:iU}(h:j6 W0 E H Kk M I b G w a ids its gv fC)(hj:its[j]?=some ⟨id,cb,c⟩):Calls Tryz.prog 36 #[pQ b,nI id] w fun y w'=>y= .returned .nilIface∧oQ W0 E H Kk M I b G w w' a ids (its.eraseIdx j) gv fC:=by
 obtain⟨C,GC,mb,hS,rfl,mY⟩:=h;have hbk:=hS.blk.blk;unfold fB.cells at hbk;have c16:=hbk.cell 16;simp only[gl]at c16;have HO:=qd (PK hS.kL hj);have HS:=qd hS;have HQ:=qd mY;clear hbk hS mY hj;go_in;go_wp2_with fail;refine HO.out.mono ?_;rintro y w1 ⟨rfl,hi,hm⟩;have hs:=HS.out.SI hi hm (fun q hq=> .inl (by unfold bB;simp at hq⊢;exact .inr (.inl hq))) (fun q hq=> .inl (OH q hq));have HE:=qd (show oQ W0 E H Kk M I b (dY b C GC mb its) w w1 a ids (its.eraseIdx j) gv fC from HQ.out▸hs.to);clear hs hi hm HO;go_wp2;go_ret;exact⟨rfl,HE.out⟩
theorem LK {id:Int}(h:j6 W0 E H Kk M I b G w a ids its gv fC)(hn:∀i∈its,(i.id:Int)≠id)(h6:bX E W0 6):Calls Tryz.prog 36 #[pQ b,.int .i64 id] w fun y w'=>y= .returned (.iface 318 (.pointer (some (E 6))))∧Below w.heap.size w w':=by
 obtain⟨C,GC,mb,hS,rfl,mY⟩:=h;have hbk:=hS.blk.blk;unfold fB.cells at hbk;have c16:=hbk.cell 16;simp only[gl]at c16;have h6w:bX E w 6:=h6.of_block hS.core.facts.2.2.2.2.2.2.2.2.2.2.2.below.block;have HO:=qd (FV hS.kL hn h6w);clear hbk hS mY hn h6 h6w;go_in;go_wp2_with fail;refine HO.out.mono ?_;rintro y w1 ⟨rfl,hb⟩;go_wp2;go_ret;exact⟨rfl,hb⟩
theorem YN (h:j6 W0 E H Kk M I b G w a ids its gv fC)(hM:1≤M)(hI:1≤I):Calls Tryz.prog 33 #[pQ b] w fun y w'=>y= .returned undef∧∃jh,oQ W0 E H Kk M I b G w w' mE [] (its.map It.ended) gv jh:=by
 obtain⟨C,GC,mb,hS,rfl,mY⟩:=h;have hbk:=hS.blk.blk;unfold fB.cells at hbk;have c16:=hbk.cell 16;simp only[gl]at c16;have jy:=qd hS;obtain⟨g1,g2,g3⟩:=hS.cfg;have HKM:=qd hS.core.facts
 have hcf:jM (Kk:Int) (M:Int) (I:Int)=true:=by
  have h1:=hS.core.facts.2.2.2.2.2.2.2.1;have h2:=hS.core.facts.2.2.2.2.2.2.2.2.1;have h3:=hS.kL.few.1;unfold jM zY;simp;omega
 have hnb:=Ow H hS.core.facts.2.2.2.2.2.2.2.2.2.2.2 (Kk:Int) (M:Int) (I:Int) hcf Kk M I ⟨hS.core.facts.2.2.2.2.2.2.2.2.1,⟨hM,hS.core.facts.2.2.2.2.2.2.2.1⟩,rfl,rfl,rfl⟩;unfold fZ bg at hnb;have jL:=qd hnb;obtain⟨c0,c1,c2⟩:=hbk.c3;rw[g1]at c0;rw[g2]at c1;rw[g3]at c2;clear hnb hbk hS hcf g1 g2 g3 c16;go_in;go_wp2_with fail;refine jL.out.mono ?_;rintro y w1 ⟨cb,rfl,hnew⟩;obtain⟨GN,hC,hsu,hmo⟩:=Vz hnew;have hb1:=hmo.wV;have hS1:=jy.out.below hb1;have HC:=qd hC;have yg:=qd (show∀q∈GN,w.heap.size≤q from fun q hq=>(hsu q hq).elim (fun k=>by cases k) (fun k=>k));have HGl:=qd (show∀q∈GN,q<w1.heap.size from fun q hq=>(hC.facts.2.2.2.2.2.2.2.2.2.2.1 q hq).1);have HSa:=qd hS1;have hbk:=hS1.blk.blk;unfold fB.cells at hbk;have c3:=hbk.cell 3;simp only[gl]at c3;have hdr:=(Below.refl w1.heap.size w1).drew;have HGr:=qd (Vy (hS1.core.below hdr));have hSd:=hS1.below hdr;have HWa:=qd (YG hSd.blk a.groups (by have:=OJ (H:=H) HKM.out.2.2.2.2.2.1 HKM.out.2.2.1;omega));have ZM:=qd hSd;have EK:=qd hdr;clear hnew hC hsu hmo hb1 jL c0 c1 c2 hbk hS1 hdr hSd;unfold bg at HGr;go_upto_region 2 with fail;refine rT (fun(w':World)=>w'.cell? ⟨b,3,none⟩=some (pQ C.cb)∧True) [8] ?_;have hHeld:=(⟨c3,trivial⟩:_∧_);refine vW 0 rfl ?_;refine vW 1 rfl ?_;refine vW 2 rfl ?_;refine vW 3 rfl ?_;refine vW 4 rfl ?_;refine vW 5 rfl ?_;refine vT 6 rfl ?_;refine nT 7 rfl fun K hK=> ?_;go_simp;refine HGr.out.mono ?_;rintro y w2 ⟨rfl,rfl⟩;have hHeld:=(⟨c3,trivial⟩:_∧_);refine kO hK ?_;clear hK K;refine nT 8 rfl fun K hK=> ?_
 go_simp;refine HWa.out.mono ?_;rintro y w3 ⟨d,hd,rfl,hB3,gy⟩;refine kO hK ?_;clear hK K;refine aU (by kernel_rfl) ?_ _;have KR:=ZM.out.Dq hB3 gy ⟨rfl,rfl,rfl,rfl,rfl⟩;have hbw:=jy.out.blk.lt
 have hbG:b∉GN:=fun hg=>by have:=yg.out b hg;omega
 have mW:=qd ((HC.out.below EK.out).mod gy (fun q hq=>by rw[List.mem_singleton.1 hq];exact⟨hbG,jy.out.b0.1⟩));have jW:=qd KR;have hbk:=hB3.blk;unfold fB.cells at hbk;have c3:=hbk.cell 3;simp only[gl]at c3;have f3:=hbk.frozen 3;have hnew:=hbk.ak 3 (pQ cb);have hm:=(Mod.refl [b] w3).sl 3 (pQ cb);simp only[pt]at hnew;have jL:=qd (show nD _ b {C with lf:=C.lf+d,cb:=cb} from⟨hnew,hB3.lf,hB3.gn⟩);have KO:=qd hm;have HBG:=qd hbG;clear KR hbw hbG hbk hnew hm hB3 gy hd HGr HWa;go_upto_region 4 with fail;refine aZ (F:=fun v=>nD v b {C with lf:=C.lf+d,cb:=cb}∧Mod [b] w3 v) ⟨jL.out,KO.out⟩ ?_;clear jL KO c3 f3;rintro w4 ⟨hB4,dP⟩
 have Bw:=jW.out.newC (C':={C with lf:=C.lf+d,cb:=cb}) (mW.out.mod dP (fun q hq=>by rw[List.mem_singleton.1 hq];exact⟨HBG.out,jy.out.b0.1⟩)) hB4 ⟨rfl,rfl,rfl,rfl⟩ dP (fun q hq=>⟨fun e=>HBG.out (e▸hq),fun hh=>by
  have:=yg.out q hq;have:=jy.out.kL.fM q hh
  omega,yg.out q hq⟩)
 have bJ:=qd (OG Bw.kL);have UN:=qd Bw;have hbk:=hB4.blk;unfold fB.cells at hbk;have c16:=hbk.cell 16;simp only[gl]at c16;clear Bw hbk hB4 dP jW mW;go_wp2_with fail;refine bJ.out.mono ?_;rintro y w5 ⟨rfl,hit,dh⟩;have hS5:=UN.out.SI hit dh (fun q hq=> .inl (by unfold bB;simp only[List.mem_cons];exact .inr (.inr hq))) (fun q hq=> .inl (by rw[OI]at hq;exact hq));have hwr:=FU hS5.blk (by have:=HKM.out.2.2.2.2.2.2.2.2.1;have h1:=jy.out.cfg.1;show 1≤C.k∧C.k≤64;rw[h1];omega) ⟨0,0,0⟩;unfold mH at hwr;have kr:=qd hwr;have MN:=qd hS5;clear hit dh hS5 hwr bJ c16;go_wp2_with fail;refine kr.out.mono ?_;rintro y w6 ⟨rfl,lf,gn,ma,ml,last,all,hle,xZ,mK⟩;have hS6:=MN.out.Dq xZ mK ⟨rfl,rfl,rfl,rfl,rfl⟩;have HE:=qd hS6.to;clear hS6 xZ mK hle kr;go_wp2;go_end0;exact⟨rfl,_,HE.out⟩
end
section
variable {es es' : List ay} {key : Nat}
def rA (es:List ay):Nat→Option Nat:=fun k=>(look es k).map ay.val
theorem Im (es:List ay)(key k:Nat):look (rest es key) k=if k=key then none else look es k:=by
 unfold look rest;rw[List.find?_filter];split
 ·rename_i h;subst h;rw[List.find?_eq_none];intro x _;simp
 ·rename_i h;congr 1;funext x;by_cases hx:x.key=k
  ·simp[hx,h]
  ·simp[hx]
theorem SN (l:List ay)(e:ay)(k:Nat):look (l++[e]) k=(look l k).or (if e.key=k then some e else none):=by
 unfold look;rw[List.find?_append];congr 1;by_cases h:e.key=k
 ·simp[h]
 ·simp[h]
theorem KT (hn:(es.map ay.key).Nodup)(key:Nat):(rest es key).length=if(rA es key).isSome then es.length-1 else es.length:=by
 unfold rA
 cases hl:look es key with
 |none=>rw[Dm hl];simp
 |some e=>
  obtain⟨h1,rfl⟩:=oN hl;have hp:=List.perm_cons_erase h1;have h2:=(Dn hn hp).length_eq;rw[h2,List.length_erase_of_mem h1];simp
def noRoom (M:Nat)(o:Option Nat)(n:Nat):Bool:=o.isNone && decide (M≤n)
def FW (M:Nat)(R:Nat→Option Nat)(n k v:Nat):Nat→Option Nat:=if noRoom M (R k) n then R else fun x=>if x=k then some v else R x
def FX (M:Nat)(o:Option Nat)(n:Nat):Nat:=if o.isSome||decide (M≤n)then n else n+1
def FY (R:Nat→Option Nat)(k:Nat):Nat→Option Nat:=fun x=>if x=k then none else R x
def OL (o:Option Nat)(n:Nat):Nat:=if o.isSome then n-1 else n
theorem aam {M:Nat}:sw M es key=noRoom M (rA es key) es.length:=by
 unfold sw noRoom rA
 cases look es key<;>rfl
theorem abe {M:Nat}{e:ay}(hn:(es.map ay.key).Nodup)(hn':(es'.map ay.key).Nodup)(hp:es'.Perm (Js M es e)):rA es'=FW M (rA es) es.length e.key e.val∧es'.length=FX M (rA es e.key) es.length:=by
 unfold Js at hp;unfold FW;rw[aam]at hp;by_cases hf:noRoom M (rA es e.key) es.length=true
 ·rw[if_pos hf]at hp⊢;refine⟨funext fun k=> ?_, ?_⟩
  ·show(look es' k).map ay.val=_;rw[CP hp hn'];rfl
  ·rw[hp.length_eq];unfold noRoom at hf;unfold FX;rw[Bool.and_eq_true]at hf;rw[hf.2,Bool.or_true,if_pos rfl]
 ·rw[if_neg hf]at hp⊢;refine⟨funext fun k=> ?_, ?_⟩
  ·show(look es' k).map ay.val=_;rw[CP hp hn',SN,Im];by_cases hk:k=e.key
   ·rw[if_pos hk,if_pos hk.symm,if_pos hk];rfl
   ·rw[if_neg hk,if_neg (fun h=>hk h.symm),if_neg hk,Option.or_none];rfl
  ·rw[hp.length_eq,List.length_append,KT hn];unfold noRoom at hf;unfold FX
   cases hl:rA es e.key with
   |none=>
    rw[hl]at hf;simp only[Option.isNone_none,Bool.true_and]at hf;simp[hf]
   |some v=>
    have:0<es.length:=by
     cases es with
     |nil=>simp[rA,look]at hl
     |cons=>simp
    simp;omega
theorem abf (hn:(es.map ay.key).Nodup)(hn':(es'.map ay.key).Nodup)(hp:es'.Perm (rest es key)):rA es'=FY (rA es) key∧es'.length=OL (rA es key) es.length:=by
 refine⟨funext fun k=> ?_,by rw[hp.length_eq,KT hn];rfl⟩;show(look es' k).map ay.val=_;rw[CP hp hn',Im];unfold FY;by_cases hk:k=key
 ·rw[if_pos hk,if_pos hk];rfl
 ·rw[if_neg hk,if_neg hk];rfl
def nP (W0:World)(E:Nat→Addr)(H:Nat→Nat)(K M I b:Nat)(G:List Nat)(w:World)(R:Nat→Option Nat)(n:Nat)(its:List It)(gv:Nat):Prop:=
 ∃(a:Pool) (ids:List Nat) (fC:bC),j6 W0 E H K M I b G w a ids its gv fC∧rA a.ents=R∧a.ents.length=n
def vQ (W0:World)(E:Nat→Addr)(H:Nat→Nat)(K M I b:Nat)(G:List Nat)(w w':World)(R:Nat→Option Nat)(n:Nat)(its:List It)(gv:Nat):Prop:=
 ∃G',nP W0 E H K M I b G' w' R n its gv∧(∀q∈G',q∈G∨w.heap.size≤q)∧Mod G w w'
section
variable {W0 : World} {E : Nat → Addr} {H : Nat → Nat} {K M I b : Nat} {G : List Nat} {w w' : World} {R : Nat → Option Nat} {n : Nat} {its : List It} {gv : Nat}
theorem nP.below (h:nP W0 E H K M I b G w R n its gv)(hb:Below w.heap.size w w'):nP W0 E H K M I b G w' R n its gv:=by
 obtain⟨a,ids,fC,h1,h2⟩:=h;exact⟨a,ids,fC,h1.below hb,h2⟩
theorem nP.fM (h:nP W0 E H K M I b G w R n its gv):∀q∈G,q<w.heap.size∧W0.heap.size≤q:=by
 obtain⟨a,ids,fC,h1,_⟩:=h;exact h1.facts.1
theorem nP.mod {S:List Nat}(h:nP W0 E H K M I b G w R n its gv)(hm:Mod S w w')(hS:∀q∈S,q∉G∧W0.heap.size≤q):nP W0 E H K M I b G w' R n its gv:=by
 obtain⟨a,ids,fC,h1,h2⟩:=h;exact⟨a,ids,fC,h1.mod hm hS,h2⟩
theorem nP.env (h:nP W0 E H K M I b G w R n its gv):Env W0 E w:=by
 obtain⟨a,ids,fC,h1,_⟩:=h;exact h1.facts.2.2.2.2.2.2.2.2.2
theorem nP.least (h:nP W0 E H K M I b G w R n its gv):n≤M∧M≤192:=by
 obtain⟨a,ids,fC,h1,_,h3⟩:=h;exact⟨h3▸h1.facts.2.2.1,h1.facts.2.2.2.1⟩
theorem vQ.of {a:Pool}{ids:List Nat}{fC:bC}(h:oQ W0 E H K M I b G w w' a ids its gv fC)(hR:rA a.ents=R)(hn:a.ents.length=n):vQ W0 E H K M I b G w w' R n its gv:=by
 obtain⟨F,h1,h2,h3⟩:=h;exact⟨F,⟨a,ids,fC,h1,hR,hn⟩,h2,h3⟩
theorem acJ (H:Nat→Nat)(hE:Env W0 E w)(k m i:Int)(hcf:jM k m i=true)(K M I:Nat)(hkm:(1≤K∧K≤64)∧(1≤M∧M≤192)∧k=(K:Int)∧m=(M:Int)∧i=(I:Int))(Gt:1≤I∧I≤8):Calls Tryz.prog 15 #[fZ k m i] w fun y w'=>∃b G,y= .returned (.tuple #[pQ b,.nilIface])∧nP W0 E H K M I b G w' (fun _=>none) 0 [] 0∧(∀q∈G,w.heap.size≤q)∧Below w.heap.size w w':=by
 refine(acG H hE k m i hcf K M I hkm Gt).mono ?_;rintro y w' ⟨b,G,rfl,h1,h2,h3⟩;exact⟨b,G,rfl,⟨_,_,_,h1,rfl,rfl⟩,h2,h3⟩
theorem acK (h:nP W0 E H K M I b G w R n its gv)(e:ay)(he:jK H e):Calls Tryz.prog 30 #[pQ b,nU e.key,nU e.val,nU e.hash] w fun y w'=>
  y= .returned (dK E (if noRoom M (R e.key) n then 2 else 0))∧vQ W0 E H K M I b G w w' (FW M R n e.key e.val) (FX M (R e.key) n) its gv:=by
 obtain⟨a,ids,fC,h1,rfl,rfl⟩:=h;refine(acF h1 e he).mono ?_;rintro y w' ⟨rfl,a',aL,jh,hto,hp,_⟩;obtain⟨F,hF,hs,hm⟩:=hto;have h2:=abe h1.facts.2.1 hF.facts.2.1 hp;exact⟨by unfold uj;rw[aam],F,⟨a',aL,jh,hF,h2.1,h2.2⟩,hs,hm⟩
theorem acL (h:nP W0 E H K M I b G w R n its gv)(key:Nat)(h64:H key<18446744073709551616):Calls Tryz.prog 19 #[pQ b,nU key,.int .u64 (H key:Int)] w fun y w'=>y= .returned (.tuple #[.int .u64 (((R key).getD 0:Nat):Int),.bool (R key).isSome])∧vQ W0 E H K M I b G w w' R n its gv:=by
 obtain⟨a,ids,fC,h1,rfl,rfl⟩:=h;refine(acH h1 key h64).mono ?_;rintro y w' ⟨rfl,jh,hto⟩;refine⟨?_,vQ.of hto rfl rfl⟩;unfold FT rA
 cases look a.ents key<;>rfl
theorem VR (h:nP W0 E H K M I b G w R n its gv)(e:ay)(he:jK H e):Calls Tryz.prog 31 #[pQ b,nU e.key,nU e.hash] w fun y w'=>y= .returned (.bool (R e.key).isSome)∧vQ W0 E H K M I b G w w' (FY R e.key) (OL (R e.key) n) its gv:=by
 obtain⟨a,ids,fC,h1,rfl,rfl⟩:=h;refine(VQ h1 e he).mono ?_;rintro y w' ⟨rfl,a',aL,jh,hto,hp⟩;obtain⟨F,hF,hs,hm⟩:=hto;have h2:=abf h1.facts.2.1 hF.facts.2.1 hp;exact⟨by unfold rA;cases look a.ents e.key<;>rfl,F,⟨a',aL,jh,hF,h2.1,h2.2⟩,hs,hm⟩
theorem acM (h:nP W0 E H K M I b G w R n its gv):Calls Tryz.prog 32 #[pQ b] w fun y w'=>y= .returned (nI n)∧w=w':=by
 obtain⟨a,ids,fC,h1,rfl,rfl⟩:=h;exact acD h1
end
end
section
variable {j key m : Nat} {es : List ay} {e : ay}
def aen (es:List ay)(key:Nat)(y:Int):Prop:=(∃(i:Nat) (e:ay),es[i]?=some e∧e.key=key∧y=(i:Int)∧∀k,k<i→∀e',es[k]?=some e'→e'.key≠key)∨((∀e∈es,e.key≠key)∧y= -1)
end
section
variable {es : List ay} {j key : Nat} {e : ay}
def without (es:List ay)(key j:Nat):List ay:=(es.take j).filter fun x=>x.key !=key
end
section
section
variable {w w' : World} {base mb M : Nat} {es : List ay} {R : List Nat}
end
def cutAt (y:Option ay)(hi:Nat):Option ay:=match y with|none=>none|some m=>if m.hash≤hi then some m else none
end
section
variable {l : List ay} {m : ay} {b base : Nat} {w : World} {v : Value}
def Asc (l:List ay):Prop:=l.Pairwise fun x y=>bM x y=true
theorem Asc.nodup (h:Asc l):l.Nodup:=h.imp fun hxy e=>by rw[e,zk]at hxy;cases hxy
theorem YO (h:Asc l)(hm:∀e∈l,bM e m=true):Asc (l++[m]):=List.pairwise_append.2 ⟨h,List.pairwise_singleton _ _,fun x hx y hy=>by rw[List.mem_singleton.1 hy];exact hm x hx⟩
def below_ (hs:List Nat)(b:Nat):Nat:=(hs.filter fun h=>decide (h<b)).length
theorem wI (hs:List Nat){a:Nat}(h:a≤b):below_ hs a≤below_ hs b:=by
 unfold below_
 induction hs with
 |nil=>simp
 |cons x l ih=>
  simp only[List.filter_cons];by_cases h1:x<a
  ·rw[if_pos (by simpa using h1),if_pos (by simp;omega)];simp only[List.length_cons];omega
  ·rw[if_neg (by simpa using h1)]
   split<;>(try simp only[List.length_cons])<;>omega
theorem Bf {hs:List Nat}{a x:Nat}(hx:x∈hs)(h1:a≤x)(h2:x<b):below_ hs a+1≤below_ hs b:=by
 obtain⟨s,t,rfl⟩:=List.append_of_mem hx;have g1:=wI s (Nat.le_trans h1 (Nat.le_of_lt h2));have g2:=wI t (Nat.le_trans h1 (Nat.le_of_lt h2));unfold below_ at g1 g2⊢;rw[List.filter_append,List.filter_append,List.filter_cons,List.filter_cons,if_neg (by simp;omega),if_pos (by simp;omega)];simp only[List.length_append,List.length_cons];omega
theorem below_le (hs:List Nat)(b:Nat):below_ hs b≤hs.length:=List.length_filter_le _ _
structure lJ (es:List ay)(hs:List Nat)(n:Nat)(out:List ay)(key hash:Nat):Prop where
 rC:Asc out
 mem:∀e,e∈out↔e∈es∧bM e ⟨key,0,hash⟩=true
 cnt:n≤out.length+below_ hs hash
section
variable {es out : List ay} {hs : List Nat} {n key hash hi : Nat}
theorem lJ.start (es:List ay)(hs:List Nat):lJ es hs 0 [] 0 0:=⟨.nil,fun e=>by simp[bM],Nat.zero_le _⟩
theorem KU {l':List ay}(hn:l.Nodup)(hs:∀x∈l,x∈l'):l.length≤l'.length:=by
 induction l generalizing l' with
 |nil=>exact Nat.zero_le _
 |cons x l ih=>
  rw[List.nodup_cons]at hn;obtain⟨s,t,rfl⟩:=List.append_of_mem (hs x (by simp))
  have h1:=ih (l':=s++t) hn.2 (fun y hy=>by
   have:=hs y (by simp[hy]);simp only[List.mem_append,List.mem_cons]at this⊢;rcases this with h|h|h
   ·exact .inl h
   ·rw[h]at hy;exact absurd hy hn.1
   ·exact .inr h)
  simp only[List.length_append,List.length_cons]at h1⊢;omega
theorem lJ.len (h:lJ es hs n out key hash):out.length≤es.length:=KU h.rC.nodup (fun e he=>((h.mem e).1 he).1)
theorem lJ.few (h:lJ es hs n out key hash)(h1:es.length≤192)(h2:hs.length≤32):n≤224:=by
 have:=h.cnt;have:=h.len;have:=below_le hs hash;omega
theorem lJ.some_ (h:lJ es hs n out key hash)(hn:(es.map ay.key).Nodup)(hm:gL ⟨key,0,hash⟩ (upto es hi) (some m)):lJ es hs (n+1) (out++[m]) (m.key+1) m.hash∧(∀e∈out,bM e m=true)∧m.hash≤hi∧m∈es:=by
 obtain⟨m1,m2⟩:=nO.1 hm.1
 have hlt:∀e∈out,bM e m=true:=fun e he=>by
  have h1:=((h.mem e).1 he).2;have h2:=hm.2.1;simp[bM]at h1 h2⊢;omega
 have hh:=KQ hm.2.1;refine⟨⟨YO h.rC hlt,fun e=>⟨fun he=> ?_,fun he=> ?_⟩, ?_⟩,hlt,m2,m1⟩
 ·rcases List.mem_append.1 he with h1|h1
  ·refine⟨((h.mem e).1 h1).1, ?_⟩;have:=hlt e h1;simp[bM]at this⊢;omega
  ·rw[List.mem_singleton.1 h1];exact⟨m1,by simp[bM]⟩
 ·rw[List.mem_append,List.mem_singleton]
  cases hl:bM e ⟨key,0,hash⟩with
  |true=>exact .inl ((h.mem e).2 ⟨he.1,hl⟩)
  |false=>
   right;have h1:=he.2;have h2:=hm.2.2 e (nO.2 ⟨he.1,by simp[bM]at h1;omega⟩) hl
   have hk:e.key=m.key:=by simp[bM]at h1 h2;omega
   have e1:=je hn he.1;have e2:=je hn m1;rw[hk,e2]at e1;exact(Option.some.inj e1).symm
 ·have:=h.cnt;have:=wI hs hh;simp only[List.length_append,List.length_cons,List.length_nil];omega
theorem lJ.none_ (h:lJ es hs n out key hash)(hm:gL ⟨key,0,hash⟩ (upto es hi) none)(h1:hash≤hi)(h2:hi∈hs):lJ es hs (n+1) out 0 (hi+1):=by
 refine⟨h.rC,fun e=>⟨fun he=> ?_,fun he=> ?_⟩, ?_⟩
 ·have:=(h.mem e).1 he;refine⟨this.1, ?_⟩;have h3:=this.2;simp[bM]at h3⊢;omega
 ·have h3:=he.2;exact(h.mem e).2 ⟨he.1,hm e (nO.2 ⟨he.1,by simp[bM]at h3;omega⟩)⟩
 ·have:=h.cnt;have:=Bf (b:=hi+1) h2 h1 (by omega);omega
end
end
end Go.Proofs.YtkkibocdfijnhaaGreatDoor
