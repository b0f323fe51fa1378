/- A new map; a map's Get. No statement of the claim. -/
import Derived.Test.YtflbmgpmnocnbaaGreatDoorRmE
import Derived.Test.YtflbmgpmnocnbaaGreatDoorSqT
import Derived.Test.YtflbmgpmnocnbaaGreatDoorLaneP
import Derived.Maps.RangeWalk
import Derived.Test.YtflbmgpmnocnbaaGreatDoorRmB
import Ieee.Arith
namespace Go.Proofs.YtflbmgpmnocnbaaGreatDoor
set_option maxRecDepth 100000
set_option maxHeartbeats 4000000
open Go.RowKit AmC Go.MapKept Ieee
open Go.ChangeMaps (setBlock heap_setBlock_same heap_setBlock_other)
variable {W0 w : World} {E : Nat → Addr}
theorem rt_New (H:Nat→Nat)(hE:Env W0 E w)(k m i:Int)(hcf:cfgOk k m i=true)(K M I:Nat)(hkm:(1≤K∧K≤64)∧(1≤M∧M≤192)∧k=(K:Int)∧m=(M:Int)∧i=(I:Int))(hi8:1≤I∧I≤8):Calls Tryz.prog 16 #[cfgV k m i] w fun y w'=>∃b G,y= .returned (.tuple #[.pointer (some ⟨b,0,none⟩),.nilIface])∧RtAt W0 E H K M I b G w' pool0 [] [] 0 ⟨0,0,0⟩∧(∀q∈G,w.heap.size≤q)∧Below w.heap.size w w':=by
 obtain⟨hK,hM,rfl,rfl,rfl⟩:=hkm;have HI:=qd (And.intro hK (And.intro hM hi8));have hB0:=Blk.new w 30 #[.int .i64 (K:Int),.int .i64 (M:Int),.int .i64 (I:Int)];have hb0:=(Below.refl w.heap.size w).alloc (Nat.le_refl _) (.cells #[.int .i64 (K:Int),.int .i64 (M:Int),.int .i64 (I:Int)] 30);obtain⟨W,hW⟩:∃W,W=w.alloc (.cells #[.int .i64 (K:Int),.int .i64 (M:Int),.int .i64 (I:Int)] 30):=⟨_,rfl⟩;rw[←hW]at hB0 hb0;have hnb:=core_New H (hE.next hb0) (K:Int) (M:Int) (I:Int) hcf K M I ⟨hK,hM,rfl,rfl,rfl⟩;have c:=hB0.c3;unfold cfgV at hnb⊢;have HNw:=qd hnb;have HX:=qd hB0;have HB:=qd hb0;have HW:=qd hW;have HE:=qd hE;clear hnb hB0 hb0 hW hK hM hi8 hE;go_in;go_upto_region 1 with fail;rw[←HW.out];go_wp2_with fail;refine HNw.out.mono ?_;rintro y w1 ⟨cb,rfl,hnew⟩;obtain⟨GC,hC,hsu,hmo⟩:=new_at hnew;have hb1:=hmo.to_below;have HC:=qd hC;have HSu:=qd (show∀q∈GC,W.heap.size≤q from fun q hq=>(hsu q hq).elim (fun k=>by cases k) (fun k=>k));have HGl:=qd (show∀q∈GC,q<w1.heap.size from fun q hq=>(hC.facts.2.2.2.2.2.2.2.2.2.2.1 q hq).1);replace HX:=qB hb1 HX;have HB1:=qd (below_nx hb1 HB.out);have HL0:=qd hb1.size;have HZ:=qd (show w.heap.size<W.heap.size from by rw[HW.out];simp);clear hnew hC hsu hmo hb1 HNw c;have c:=HX.out.c3;have HIt:=qd (iters_New I HI.out.2.2 w1);unfold coreP;go_wp2_with fail;refine HIt.out.mono ?_;rintro y w2 ⟨rfl,hit,hb2⟩;replace HC:=qd (HC.out.below hb2);replace HX:=qB hb2 HX;have HB2:=qd (below_nx hb2 HB1.out);have HIa:=qd hit
 have HL1:=qd (show W.heap.size≤w1.heap.size∧w1.heap.size+1<w2.heap.size from⟨HL0.out,hit.blk.lt⟩);clear hit hb2 HIt c;have c:=HX.out.c3;obtain⟨ib,hib⟩:∃ib,ib=w1.heap.size+1:=⟨_,rfl⟩;obtain⟨mb,hmb⟩:∃mb,mb=w1.heap.size:=⟨_,rfl⟩;rw[←hib]at HIa HL1⊢;rw[←hmb]at HIa;have HQ:=qd (show mb=w1.heap.size∧ib=w1.heap.size+1 from⟨hmb,hib⟩);clear hib hmb;obtain⟨C,hCdef⟩:∃C:RmC,C=⟨(K:Int),(M:Int),(I:Int),cb,0,0,⟨0,0,0⟩,⟨0,0,0⟩,ib,⟨0,0,0⟩,⟨0,0,0⟩⟩:=⟨_,rfl⟩;have hbb:=(Below.refl w2.heap.size w2).alloc (Nat.le_refl _) (.cells C.cells 82);have hnb:=Blk.new w2 82 C.cells
 have hS:RtS W0 E H K M I w2.heap.size [] w C GC mb 0 (w2.alloc (.cells C.cells 82)) pool0 [] []:=by
  have h1:=HL1.out.1;have h2:=HL1.out.2;obtain⟨g1,g2⟩:=HQ.out;have hg:=HGl.out;have hs:=HSu.out;have hz:=HZ.out;have hw0:=HE.out.size
  have e1:C.cb=cb:=by rw[hCdef]
  have e2:C.ib=ib:=by rw[hCdef]
  have hf:∀q,q∈itFoot ib mb []→q=ib∨q=mb:=fun q hq=>by unfold itFoot at hq;simpa using hq
  refine⟨⟨hnb,by rw[hCdef];exact Nat.zero_le _,by rw[hCdef];exact Nat.zero_le _⟩,by rw[hCdef];exact⟨rfl,rfl,rfl⟩,by rw[e1];exact HC.out.below hbb,by rw[e2];exact HIa.out.below hbb,⟨by omega,fun q hq=> ?_⟩,⟨fun hh=>by have:=hg _ hh;omega,fun hh=> ?_,fun q hq hh=> ?_⟩,fun q hq=> .inr ?_,(Mod.of_below (below_nx hbb HB2.out) []),hw0⟩
  ·rw[e2]at hq;rcases hf q hq with k|k<;>omega
  ·rw[e2]at hh;rcases hf _ hh with k|k<;>omega
  ·rw[e2]at hq;have:=hg q hh;rcases hf q hq with k|k<;>omega
  ·rcases mem_rtFoot.1 hq with k|k|k
   ·omega
   ·rw[e2]at k;rcases hf q k with k|k<;>omega
   ·have:=hs q k;omega
 have hto:=hS.to;have hbz:=below_nx hbb HB2.out;rw[hCdef]at hto hbz;unfold RmC.cells at hto hbz;have HF:=qd (And.intro hto hbz);clear hS hto hbz hbb hnb hCdef;go_wp2;refine bodyPost_ret (v:= .tuple #[.pointer (some ⟨w2.heap.size,0,none⟩),.nilIface]) (by simp[results,Tryz.results16,go_sem]) rfl ?_;obtain⟨G',k1,k2,k3⟩:=HF.out.1;exact⟨w2.heap.size,G',rfl,k1,fun q hq=>(k2 q hq).elim (fun z=>by cases z) (fun z=>z),HF.out.2⟩
theorem rt_Get {H:Nat→Nat}{Kk M I b:Nat}{G:List Nat}{a:Pool}{ids:List Nat}{its:List It}{gv:Nat}{lst:Cnt}(h:RtAt W0 E H Kk M I b G w a ids its gv lst)(key:Nat)(h64:H key<18446744073709551616):Calls Tryz.prog 25 #[.pointer (some ⟨b,0,none⟩),.int .u64 (key:Int),.int .u64 (H key:Int)] w fun y w'=>y= .returned (getV a.ents key)∧∃lst',RtTo W0 E H Kk M I b G w w' a ids its gv lst':=by
 obtain⟨C,GC,mb,hS,rfl,hlst⟩:=h;have hbk:=hS.blk.blk;unfold RmC.cells at hbk;have c3:=hbk.cell 3;simp only[gl]at c3;have hget:=at_get hS.core key h64;unfold coreP getV at hget;obtain⟨gu,hgu⟩:∃g:Int,g=(((look a.ents key).getD ⟨0,0,0⟩).val:Int):=⟨_,rfl⟩;obtain⟨gi,hgi⟩:∃i,i=(look a.ents key).isSome:=⟨_,rfl⟩;unfold getV;rw[←hgu,←hgi]at hget⊢;have HGe:=qd hget;have HS:=qd hS;clear hgu hgi hget hbk hS hlst;go_in;go_wp2_with fail;refine HGe.out.mono ?_;rintro y w1 ⟨rfl,hto⟩;obtain⟨GC',hs1,hsu,hmo⟩:=HS.out.setC hto;replace HS:=qd hs1;clear hto hs1 hsu hmo HGe c3;obtain⟨cc,hcc⟩:=HS.out.core.c_;have HLs:=qd (at_Last hcc);unfold cntV at HLs;have hbk:=HS.out.blk.blk;unfold RmC.cells at hbk;have c3:=hbk.cell 3;simp only[gl]at c3;clear hbk hcc;go_wp2_with fail;refine(core_Meter _ _).mono ?_;rintro y w2 ⟨rfl,rfl⟩;go_wp2_with fail;refine HLs.out.mono ?_;rintro y w2 ⟨rfl,hb⟩;replace HS:=qd (HS.out.below hb);clear hb HLs c3;have HCn:=qd (show Calls Tryz.prog 34 #[.pointer (some ⟨b,0,none⟩),.agg #[.int .i64 cc.p,.int .i64 cc.v,.int .i64 cc.u]] w2 _ from rm_count HS.out.blk cc);go_wp2_with fail;refine HCn.out.mono ?_;rintro y w3 ⟨rfl,hB3,hm3⟩;have HE:=qd (HS.out.setB hB3 hm3 ⟨rfl,rfl,rfl,rfl,rfl⟩).to;clear hB3 hm3 HS HCn;go_wp2;refine bodyPost_ret (v:= .tuple #[.int .u64 gu,.bool gi]) (by simp[results,Tryz.results25,go_sem]) rfl ⟨rfl,_,HE.out⟩
end Go.Proofs.YtflbmgpmnocnbaaGreatDoor

/-! The iterators that are open: At of one that is not there, Close, EndAll. No statement of the claim. -/
namespace Go.Proofs.YtflbmgpmnocnbaaGreatDoor
set_option maxRecDepth 100000
set_option maxHeartbeats 4000000
open Go.RowKit AmC Go.MapKept Ieee
open Go.ChangeMaps (setBlock heap_setBlock_same heap_setBlock_other)
variable {ops : Array Oper} {rest : List Oper} {o : Oper} {a : Act} {Q : Exit → Act → World → Prop} {r : Nat} {seen : Array Nat} {E : Nat → Addr} {w2 : World}
theorem map_erase {α β:Type}(f:α→β):∀(l:List α) (j:Nat),(l.map f).eraseIdx j=(l.eraseIdx j).map f
 | [],_=>by simp
 |x::l,0=>rfl
 |x::l,j+1=>by simp[map_erase f l j]
section
variable {P : Program} {w w' : World} {b g : Nat} {l : List (Nat × Nat)} {t k e : TypeId}
theorem MapL.del (h:MapL w b g l)(ht:P.underlying t=some (.map k e))(hk:P.underlying k=some (.int .i64)){j:Nat}{p:Nat×Nat}(hj:l[j]?=some p)(hn:(l.map Prod.fst).Nodup)(ty:TypeId):
  (Builtin.delete_ #[t,k] ty #[.map (some b),.int .i64 (p.1:Int)]).run P w= .ok (.tuple #[]) (setBlock w b (.map ((l.eraseIdx j).map mEnt).toArray g)):=by
 obtain⟨a,h1,h2,h4⟩:=find_now (p.1:Int) l 0;have h3:=run_findKey (P:=P) (w:=w) hk h1
 cases a with
 |none=>
  have:findL l (p.1:Int)=none:=by cases hf:findL l (p.1:Int)with|none=>rfl|some q=>rw[hf]at h2;cases h2
  exact absurd rfl (findL_none.1 this p (List.mem_of_getElem? hj))
 |some q=>
  obtain⟨i,v⟩:=q;obtain⟨j',h5,h6⟩:=h4 _ rfl
  have hij:i=j:=by
   simp only[Nat.zero_add]at h5;rw[List.getElem?_map]at h6
   cases hq:l[j']? with
   |none=>rw[hq]at h6;cases h6
   |some q'=>
    rw[hq]at h6
    have e0:(q'.1:Int)=(p.1:Int):=by simpa using h6
    have e1:q'.1=p.1:=by omega
    have a1:(l.map Prod.fst)[j']?=some p.1:=by rw[List.getElem?_map,hq];simp[e1]
    have a2:(l.map Prod.fst)[j]?=some p.1:=by rw[List.getElem?_map,hj];rfl
    obtain⟨b1,b2⟩:=List.getElem?_eq_some_iff.1 a1;obtain⟨b3,b4⟩:=List.getElem?_eq_some_iff.1 a2;rw[h5];have hp:=List.pairwise_iff_getElem.1 hn;rcases Nat.lt_trichotomy j' j with z|z|z
    ·exact absurd (b2.trans b4.symm) (hp _ _ b1 b3 z)
    ·exact z
    ·exact absurd (b4.trans b2.symm) (hp _ _ b3 b1 z)
  subst hij;simp[Builtin.delete_,run_underlying ht,Go.MapKept.run_getObj_map (show w.heap[b]?=some (.map (l.map mEnt).toArray g)from h),run_checkKey hk key_int,h3,Go.MapKept.run_setObj_map _ (show w.heap[b]?=some (.map (l.map mEnt).toArray g)from h),Result.andThen,setBlock,map_erase]
end
section
variable {w : World} {ib mb most given : Nat} {its : List It}
theorem itMap_fst (its:List It):(itMap its).map Prod.fst=its.map It.id:=by unfold itMap;rw[List.map_map];rfl
theorem ItAt.mb_cb (h:ItAt w ib mb most given its){i:It}(hi:i∈its):mb≠i.cb∧ib≠i.cb∧ib≠mb:=by
 have:=h.nf;unfold itFoot at this;rw[List.nodup_cons,List.nodup_cons]at this;have hm:=List.mem_map_of_mem (f:=It.cb) hi;exact⟨fun e=>this.2.1 (e▸hm),fun e=>this.1 (List.mem_cons_of_mem _ (e▸hm)),fun e=>this.1 (by rw[e];simp)⟩
theorem ItAt.erased {j:Nat}(h:ItAt w ib mb most given its)(hb:Blk w2 ib 115 #[.int .i64 (most:Int),.int .i64 (given:Int),.map (some mb)])(hm:MapL w2 mb given ((itMap its).eraseIdx j))(hmod:Mod [mb] w w2):ItAt w2 ib mb most given (its.eraseIdx j):=by
 have hs:=List.eraseIdx_sublist its j;refine⟨hb,by unfold itMap at hm⊢;rw[←map_erase];exact hm,fun i hi=>(h.cur i (hs.subset hi)).mod hmod (fun hh=>(h.mb_cb (hs.subset hi)).1 (List.mem_singleton.1 hh).symm),fun i hi=>h.ids i (hs.subset hi),h.nd.sublist (hs.map _), ?_,h.few.1,by have:=hs.length_le;have:=h.few.2;omega⟩;have:=h.nf;unfold itFoot at this⊢;exact this.sublist (((hs.map _).cons_cons _).cons_cons _)
theorem iters_Close {j id cb:Nat}{c:Cur}(h:ItAt w ib mb most given its)(hj:its[j]?=some ⟨id,cb,c⟩):Calls Tryz.prog 71 #[.pointer (some ⟨ib,0,none⟩),.int .i64 (id:Int)] w fun y w'=>y= .returned .nilIface∧ItAt w' ib mb most given (its.eraseIdx j)∧Mod [mb] w w':=by
 have HAt:=qd (iters_At h (List.mem_of_getElem? hj))
 have hj2:(itMap its)[j]?=some (id,cb):=by unfold itMap;rw[List.getElem?_map,hj];rfl
 have hdel:=fun ty=>h.map.del (P:=Tryz.prog) (t:=113) Tryz.underlying113 Tryz.underlying3 hj2 (by rw[itMap_fst];exact h.nd) ty;have hms:=h.map.set_ ((itMap its).eraseIdx j) given;have hmm:=h.map.mod_ (.map (((itMap its).eraseIdx j).map mEnt).toArray given);obtain⟨W2,hW2⟩:∃W2,W2=setBlock w mb (.map (((itMap its).eraseIdx j).map mEnt).toArray given):=⟨_,rfl⟩;rw[←hW2]at hms hmm;have him:ib∉[mb]:=fun hh=>(h.mb_cb (List.mem_of_getElem? hj)).2.2 (List.mem_singleton.1 hh);have HE:=qd (And.intro (h.erased (j:=j) (h.blk.mod hmm him) hms hmm) hmm);have c2:=h.blk.cell 2;simp only[gl]at c2 hdel;simp only[←hW2]at hdel;clear h hj hj2 hms hmm him hW2;go_in;go_wp2_with fail;refine HAt.out.mono ?_;rintro y w1 ⟨rfl,rfl⟩;go_wp2;go_ret;exact⟨rfl,HE.out⟩
def It.ended (i:It):It:=⟨i.id,i.cb,⟨0,0,true⟩⟩
theorem ItAt.ended (h:ItAt w ib mb most given its)(hb:Blk w2 ib 115 #[.int .i64 (most:Int),.int .i64 (given:Int),.map (some mb)])(hm:MapL w2 mb given (itMap its))(hc:∀i∈its,CurAt w2 i.cb ⟨0,0,true⟩):ItAt w2 ib mb most given (its.map It.ended):=by
 have e1:(its.map It.ended).map It.cb=its.map It.cb:=by rw[List.map_map];rfl
 have e2:(its.map It.ended).map It.id=its.map It.id:=by rw[List.map_map];rfl
 refine⟨hb,by unfold itMap at hm⊢;rw[List.map_map];exact hm,fun i hi=> ?_,fun i hi=> ?_,by rw[e2];exact h.nd,by have:=h.nf;unfold itFoot at this⊢;rw[e1];exact this,h.few.1,by rw[List.length_map];exact h.few.2⟩
 ·obtain⟨i',hi',rfl⟩:=List.mem_map.1 hi;exact hc i' hi'
 ·obtain⟨i',hi',rfl⟩:=List.mem_map.1 hi;exact h.ids i' hi'
end
end Go.Proofs.YtflbmgpmnocnbaaGreatDoor

/-! A map's Close and Clear by their contracts. No statement of the claim. -/
namespace Go.Proofs.YtflbmgpmnocnbaaGreatDoor
set_option maxRecDepth 100000
set_option maxHeartbeats 4000000
open Go.RowKit AmC Go.MapKept Ieee
open Go.ChangeMaps (setBlock heap_setBlock_same heap_setBlock_other)
variable {I Kk M b gv ib j mb : Nat} {its : List It} {H : Nat → Nat} {a : Pool} {W0 w : World} {E : Nat → Addr} {G ids : List Nat} {lst : Cnt}
theorem itFoot_erase:∀q∈itFoot ib mb (its.eraseIdx j),q∈itFoot ib mb its:=fun q hq=>by
 unfold itFoot at hq⊢;simp only[List.mem_cons]at hq⊢;rcases hq with h|h|h
 ·exact .inl h
 ·exact .inr (.inl h)
 ·exact .inr (.inr (((List.eraseIdx_sublist its j).map It.cb).subset h))
theorem rt_Close {id cb:Nat}{c:Cur}(h:RtAt W0 E H Kk M I b G w a ids its gv lst)(hj:its[j]?=some ⟨id,cb,c⟩):Calls Tryz.prog 43 #[.pointer (some ⟨b,0,none⟩),.int .i64 (id:Int)] w fun y w'=>y= .returned .nilIface∧RtTo W0 E H Kk M I b G w w' a ids (its.eraseIdx j) gv lst:=by
 obtain⟨C,GC,mb,hS,rfl,hlst⟩:=h;have hbk:=hS.blk.blk;unfold RmC.cells at hbk;have c16:=hbk.cell 16;simp only[gl]at c16;have HO:=qd (iters_Close hS.itr hj);have HS:=qd hS;have HQ:=qd hlst;clear hbk hS hlst hj;go_in;go_wp2_with fail;refine HO.out.mono ?_;rintro y w1 ⟨rfl,hi,hm⟩;have hs:=HS.out.setI hi hm (fun q hq=> .inl (by unfold itFoot;simp at hq⊢;exact .inr (.inl hq))) (fun q hq=> .inl (itFoot_erase q hq));have HE:=qd (show RtTo W0 E H Kk M I b (rtFoot b C GC mb its) w w1 a ids (its.eraseIdx j) gv lst from HQ.out▸hs.to);clear hs hi hm HO;go_wp2;go_ret;exact⟨rfl,HE.out⟩
end Go.Proofs.YtflbmgpmnocnbaaGreatDoor

/-! The plain law of floats below 2 to the 50th: what is exact, and what rounding to the nearest whole number gives. No program in sight. -/
namespace Go.Proofs.YtflbmgpmnocnbaaGreatDoor.AmF
set_option maxRecDepth 100000
set_option maxHeartbeats 4000000
open Go.RowKit AmC Go.MapKept Ieee
open Go.ChangeMaps (setBlock heap_setBlock_same heap_setBlock_other)
variable {m w : Nat}
theorem d_sign:double.signWeight=9223372036854775808:=by decide
theorem d_binade:double.binade=4503599627370496:=by decide
theorem d_inf:double.infRung=9218868437227405312:=by decide
theorem d_least:double.leastPlace= -1074:=by decide
def mant (w:Nat):Nat:=if w<4503599627370496 then w else 4503599627370496+w % 4503599627370496
def cutBy (w:Nat):Nat:=if w<4503599627370496 then 1074 else 1075-w/4503599627370496
def Low (w:Nat):Prop:=w≤4832362400168542208
def whole (w:Nat):Nat:=mant w/2^cutBy w
def left_ (w:Nat):Nat:=mant w % 2^cutBy w
def rounded (w:Nat):Nat:=whole w+if 2^cutBy w≤2*left_ w then 1 else 0
def roundW (w:Nat):Nat:=
 if w/4503599627370496<1023 then(if w/4503599627370496=1022 then 4607182418800017408 else 0)
 else(w+2^(51-(w/4503599627370496-1023)))/2^(52-(w/4503599627370496-1023))*2^(52-(w/4503599627370496-1023))
end Go.Proofs.YtflbmgpmnocnbaaGreatDoor.AmF
