/- A new map; a map's Get. No statement of the claim. -/
import Derived.Test.YtbfpfgfgfjhpfaaGreatDoorRmE
import Derived.Test.YtbfpfgfgfjhpfaaGreatDoorPlA
import Derived.Test.YtbfpfgfgfjhpfaaGreatDoorSq
import Derived.Maps.RangeWalk
import Derived.Test.YtbfpfgfgfjhpfaaGreatDoorCoDA
import Derived.Test.YtbfpfgfgfjhpfaaGreatDoorHeldT
import Derived.Test.YtbfpfgfgfjhpfaaGreatDoorCoCY
import Derived.Test.YtbfpfgfgfjhpfaaGreatDoorCoCD
import Derived.Test.YtbfpfgfgfjhpfaaGreatDoorRmA
namespace Go.Proofs.YtbfpfgfgfjhpfaaGreatDoor
set_option maxRecDepth 100000
set_option maxHeartbeats 4000000
open Go.RowKit dP Go.MapKept
open Go.ChangeMaps (setBlock heap_setBlock_same heap_setBlock_other)
section
variable {W0 w : World} {E : Nat → Addr}
theorem adg (H:Nat→Nat)(hE:Env W0 E w)(k m i:Int)(hcf:zm k m i=true)(K M I:Nat)(hkm:(1≤K∧K≤64)∧(1≤M∧M≤192)∧k=(K:Int)∧m=(M:Int)∧i=(I:Int))(Dg:1≤I∧I≤8):Calls Tryz.prog 27 #[kJ k m i] w fun y w'=>∃b G,y= .returned (.tuple #[.pointer (some ⟨b,0,none⟩),.nilIface])∧jV W0 E H K M I b G w' nX [] [] 0 ⟨0,0,0⟩∧(∀q∈G,w.heap.size≤q)∧Below w.heap.size w w':=by
 obtain⟨hK,hM,rfl,rfl,rfl⟩:=hkm;have HI:=qd (And.intro hK (And.intro hM Dg));have hB0:=aj.new w 41 #[.int .i64 (K:Int),.int .i64 (M:Int),.int .i64 (I:Int)];have hb0:=(Below.refl w.heap.size w).alloc (Nat.le_refl _) (.cells #[.int .i64 (K:Int),.int .i64 (M:Int),.int .i64 (I:Int)] 41);obtain⟨W,hW⟩:∃W,W=w.alloc (.cells #[.int .i64 (K:Int),.int .i64 (M:Int),.int .i64 (I:Int)] 41):=⟨_,rfl⟩;rw[←hW]at hB0 hb0;have hnb:=ZQ H (hE.next hb0) (K:Int) (M:Int) (I:Int) hcf K M I ⟨hK,hM,rfl,rfl,rfl⟩;have c:=hB0.c3;unfold kJ at hnb⊢;have jS:=qd hnb;have HX:=qd hB0;have HB:=qd hb0;have HW:=qd hW;have HE:=qd hE;clear hnb hB0 hb0 hW hK hM Dg hE;go_in;go_upto_region 1 with fail;rw[←HW.out];go_wp2_with fail;refine jS.out.mono ?_;rintro y w1 ⟨cb,rfl,hnew⟩;obtain⟨GC,hC,hsu,hmo⟩:=ac8 hnew;have hb1:=hmo.Bo;have HC:=qd hC;have LM:=qd (show∀q∈GC,W.heap.size≤q from fun q hq=>(hsu q hq).elim (fun k=>by cases k) (fun k=>k));have HGl:=qd (show∀q∈GC,q<w1.heap.size from fun q hq=>(hC.facts.2.2.2.2.2.2.2.2.2.2.1 q hq).1);replace HX:=qB hb1 HX;have HB1:=qd (bX hb1 HB.out);have HL0:=qd hb1.size;have HZ:=qd (show w.heap.size<W.heap.size from by rw[HW.out];simp);clear hnew hC hsu hmo hb1 jS c;have c:=HX.out.c3;have HIt:=qd (Xj I HI.out.2.2 w1);unfold bM;go_wp2_with fail;refine HIt.out.mono ?_;rintro y w2 ⟨rfl,hit,hb2⟩;replace HC:=qd (HC.out.below hb2);replace HX:=qB hb2 HX;have HB2:=qd (bX hb2 HB1.out);have HIa:=qd hit
 have R8:=qd (show W.heap.size≤w1.heap.size∧w1.heap.size+1<w2.heap.size from⟨HL0.out,hit.blk.lt⟩);clear hit hb2 HIt c;have c:=HX.out.c3;obtain⟨ib,hib⟩:∃ib,ib=w1.heap.size+1:=⟨_,rfl⟩;obtain⟨mb,hmb⟩:∃mb,mb=w1.heap.size:=⟨_,rfl⟩;rw[←hib]at HIa R8⊢;rw[←hmb]at HIa;have HQ:=qd (show mb=w1.heap.size∧ib=w1.heap.size+1 from⟨hmb,hib⟩);clear hib hmb;obtain⟨C,Cb⟩:∃C:iE,C=⟨(K:Int),(M:Int),(I:Int),cb,0,0,⟨0,0,0⟩,⟨0,0,0⟩,ib,⟨0,0,0⟩,⟨0,0,0⟩⟩:=⟨_,rfl⟩;have hbb:=(Below.refl w2.heap.size w2).alloc (Nat.le_refl _) (.cells C.cells 113);have hnb:=aj.new w2 113 C.cells
 have hS:gY W0 E H K M I w2.heap.size [] w C GC mb 0 (w2.alloc (.cells C.cells 113)) nX [] []:=by
  have h1:=R8.out.1;have h2:=R8.out.2;obtain⟨g1,g2⟩:=HQ.out;have hg:=HGl.out;have hs:=LM.out;have hz:=HZ.out;have hw0:=HE.out.size
  have e1:C.cb=cb:=by rw[Cb]
  have e2:C.ib=ib:=by rw[Cb]
  have hf:∀q,q∈bQ ib mb []→q=ib∨q=mb:=fun q hq=>by unfold bQ at hq;simpa using hq
  refine⟨⟨hnb,by rw[Cb];exact Nat.zero_le _,by rw[Cb];exact Nat.zero_le _⟩,by rw[Cb];exact⟨rfl,rfl,rfl⟩,by rw[e1];exact HC.out.below hbb,by rw[e2];exact HIa.out.below hbb,⟨by omega,fun q hq=> ?_⟩,⟨fun hh=>by have:=hg _ hh;omega,fun hh=> ?_,fun q hq hh=> ?_⟩,fun q hq=> .inr ?_,(Mod.of_below (bX hbb HB2.out) []),hw0⟩
  ·rw[e2]at hq;rcases hf q hq with k|k<;>omega
  ·rw[e2]at hh;rcases hf _ hh with k|k<;>omega
  ·rw[e2]at hq;have:=hg q hh;rcases hf q hq with k|k<;>omega
  ·rcases aK.1 hq with k|k|k
   ·omega
   ·rw[e2]at k;rcases hf q k with k|k<;>omega
   ·have:=hs q k;omega
 have hto:=hS.to;have hbz:=bX hbb HB2.out;rw[Cb]at hto hbz;unfold iE.cells at hto hbz;have HF:=qd (And.intro hto hbz);clear hS hto hbz hbb hnb Cb;go_wp2;refine bodyPost_ret (v:= .tuple #[.pointer (some ⟨w2.heap.size,0,none⟩),.nilIface]) (by simp[results,Tryz.results27,go_sem]) rfl ?_;obtain⟨G',k1,k2,k3⟩:=HF.out.1;exact⟨w2.heap.size,G',rfl,k1,fun q hq=>(k2 q hq).elim (fun z=>by cases z) (fun z=>z),HF.out.2⟩
theorem adh {H:Nat→Nat}{Kk M I b:Nat}{G:List Nat}{a:Pool}{ids:List Nat}{its:List It}{gv:Nat}{dK:bE}(h:jV W0 E H Kk M I b G w a ids its gv dK)(key:Nat)(h64:H key<18446744073709551616):Calls Tryz.prog 81 #[.pointer (some ⟨b,0,none⟩),.int .u64 (key:Int),.int .u64 (H key:Int)] w fun y w'=>y= .returned (Pn a.ents key)∧∃dL,qC W0 E H Kk M I b G w w' a ids its gv dL:=by
 obtain⟨C,GC,mb,hS,rfl,wD⟩:=h;have hbk:=hS.blk.blk;unfold iE.cells at hbk;have c3:=hbk.cell 3;simp only[gl]at c3;have hget:=ac9 hS.core key h64;unfold bM Pn at hget;obtain⟨gu,hgu⟩:∃g:Int,g=(((look a.ents key).getD ⟨0,0,0⟩).val:Int):=⟨_,rfl⟩;obtain⟨gi,hgi⟩:∃i,i=(look a.ents key).isSome:=⟨_,rfl⟩;unfold Pn;rw[←hgu,←hgi]at hget⊢;have Ro:=qd hget;have HS:=qd hS;clear hgu hgi hget hbk hS wD;go_in;go_wp2_with fail;refine Ro.out.mono ?_;rintro y w1 ⟨rfl,hto⟩;obtain⟨iF,hs1,hsu,hmo⟩:=HS.out.adb hto;replace HS:=qd hs1;clear hto hs1 hsu hmo Ro c3;obtain⟨cc,hcc⟩:=HS.out.core.c_;have ig:=qd (EP hcc);unfold oF at ig;have hbk:=HS.out.blk.blk;unfold iE.cells at hbk;have c3:=hbk.cell 3;simp only[gl]at c3;clear hbk hcc;go_wp2_with fail;refine(wY _ _).mono ?_;rintro y w2 ⟨rfl,rfl⟩;go_wp2_with fail;refine ig.out.mono ?_;rintro y w2 ⟨rfl,hb⟩;replace HS:=qd (HS.out.below hb);clear hb ig c3;have LK:=qd (show Calls Tryz.prog 46 #[.pointer (some ⟨b,0,none⟩),.agg #[.int .i64 cc.p,.int .i64 cc.v,.int .i64 cc.u]] w2 _ from yF HS.out.blk cc);go_wp2_with fail;refine LK.out.mono ?_;rintro y w3 ⟨rfl,hB3,iZ⟩;have HE:=qd (HS.out.Pv hB3 iZ ⟨rfl,rfl,rfl,rfl,rfl⟩).to;clear hB3 iZ HS LK;go_wp2;refine bodyPost_ret (v:= .tuple #[.int .u64 gu,.bool gi]) (by simp[results,Tryz.results81,go_sem]) rfl ⟨rfl,_,HE.out⟩
end
section
variable {ops : Array Oper} {rest : List Oper} {o : Oper} {a : Act} {Q : Exit → Act → World → Prop} {r : Nat} {seen : Array Nat} {E : Nat → Addr} {w2 : World}
theorem Ep {α β:Type}(f:α→β):∀(l:List α) (j:Nat),(l.map f).eraseIdx j=(l.eraseIdx j).map f
 | [],_=>by simp
 |x::l,0=>rfl
 |x::l,j+1=>by simp[Ep f l j]
section
variable {P : Program} {w w' : World} {b g : Nat} {l : List (Nat × Nat)} {t k e : TypeId}
theorem jy.del (h:jy w b g l)(ht:P.underlying t=some (.map k e))(hk:P.underlying k=some (.int .i64)){j:Nat}{p:Nat×Nat}(hj:l[j]?=some p)(hn:(l.map Prod.fst).Nodup)(ty:TypeId):
  (Builtin.delete_ #[t,k] ty #[.map (some b),.int .i64 (p.1:Int)]).run P w= .ok (.tuple #[]) (setBlock w b (.map ((l.eraseIdx j).map nY).toArray g)):=by
 obtain⟨a,h1,h2,h4⟩:=BZ (p.1:Int) l 0;have h3:=run_findKey (P:=P) (w:=w) hk h1
 cases a with
 |none=>
  have:nZ l (p.1:Int)=none:=by cases hf:nZ l (p.1:Int)with|none=>rfl|some q=>rw[hf]at h2;cases h2
  exact absurd rfl (Ca.1 this p (List.mem_of_getElem? hj))
 |some q=>
  obtain⟨i,v⟩:=q;obtain⟨j',h5,h6⟩:=h4 _ rfl
  have hij:i=j:=by
   simp only[Nat.zero_add]at h5;rw[List.getElem?_map]at h6
   cases hq:l[j']? with
   |none=>rw[hq]at h6;cases h6
   |some q'=>
    rw[hq]at h6
    have e0:(q'.1:Int)=(p.1:Int):=by simpa using h6
    have e1:q'.1=p.1:=by omega
    have a1:(l.map Prod.fst)[j']?=some p.1:=by rw[List.getElem?_map,hq];simp[e1]
    have a2:(l.map Prod.fst)[j]?=some p.1:=by rw[List.getElem?_map,hj];rfl
    obtain⟨b1,b2⟩:=List.getElem?_eq_some_iff.1 a1;obtain⟨b3,b4⟩:=List.getElem?_eq_some_iff.1 a2;rw[h5];have hp:=List.pairwise_iff_getElem.1 hn;rcases Nat.lt_trichotomy j' j with z|z|z
    ·exact absurd (b2.trans b4.symm) (hp _ _ b1 b3 z)
    ·exact z
    ·exact absurd (b4.trans b2.symm) (hp _ _ b3 b1 z)
  subst hij;simp[Builtin.delete_,run_underlying ht,Go.MapKept.run_getObj_map (show w.heap[b]?=some (.map (l.map nY).toArray g)from h),run_checkKey hk ER,h3,Go.MapKept.run_setObj_map _ (show w.heap[b]?=some (.map (l.map nY).toArray g)from h),Result.andThen,setBlock,Ep]
end
section
variable {w : World} {ib mb most given : Nat} {its : List It}
theorem Xm (its:List It):(iR its).map Prod.fst=its.map It.id:=by unfold iR;rw[List.map_map];rfl
theorem iw.aaJ (h:iw w ib mb most given its){i:It}(hi:i∈its):mb≠i.cb∧ib≠i.cb∧ib≠mb:=by
 have:=h.nf;unfold bQ at this;rw[List.nodup_cons,List.nodup_cons]at this;have hm:=List.mem_map_of_mem (f:=It.cb) hi;exact⟨fun e=>this.2.1 (e▸hm),fun e=>this.1 (List.mem_cons_of_mem _ (e▸hm)),fun e=>this.1 (by rw[e];simp)⟩
theorem iw.erased {j:Nat}(h:iw w ib mb most given its)(hb:aj w2 ib 147 #[.int .i64 (most:Int),.int .i64 (given:Int),.map (some mb)])(hm:jy w2 mb given ((iR its).eraseIdx j))(hmod:Mod [mb] w w2):iw w2 ib mb most given (its.eraseIdx j):=by
 have hs:=List.eraseIdx_sublist its j;refine⟨hb,by unfold iR at hm⊢;rw[←Ep];exact hm,fun i hi=>(h.cur i (hs.subset hi)).mod hmod (fun hh=>(h.aaJ (hs.subset hi)).1 (List.mem_singleton.1 hh).symm),fun i hi=>h.ids i (hs.subset hi),h.nd.sublist (hs.map _), ?_,h.few.1,by have:=hs.length_le;have:=h.few.2;omega⟩;have:=h.nf;unfold bQ at this⊢;exact this.sublist (((hs.map _).cons_cons _).cons_cons _)
theorem QK {j id cb:Nat}{c:gq}(h:iw w ib mb most given its)(hj:its[j]?=some ⟨id,cb,c⟩):Calls Tryz.prog 59 #[.pointer (some ⟨ib,0,none⟩),.int .i64 (id:Int)] w fun y w'=>y= .returned .nilIface∧iw w' ib mb most given (its.eraseIdx j)∧Mod [mb] w w':=by
 have kX:=qd (Pt h (List.mem_of_getElem? hj))
 have hj2:(iR its)[j]?=some (id,cb):=by unfold iR;rw[List.getElem?_map,hj];rfl
 have hdel:=fun ty=>h.map.del (P:=Tryz.prog) (t:=145) Tryz.underlying145 Tryz.underlying3 hj2 (by rw[Xm];exact h.nd) ty;have hms:=h.map.ak ((iR its).eraseIdx j) given;have hmm:=h.map.Eo (.map (((iR its).eraseIdx j).map nY).toArray given);obtain⟨W2,hW2⟩:∃W2,W2=setBlock w mb (.map (((iR its).eraseIdx j).map nY).toArray given):=⟨_,rfl⟩;rw[←hW2]at hms hmm;have him:ib∉[mb]:=fun hh=>(h.aaJ (List.mem_of_getElem? hj)).2.2 (List.mem_singleton.1 hh);have HE:=qd (And.intro (h.erased (j:=j) (h.blk.mod hmm him) hms hmm) hmm);have c2:=h.blk.cell 2;simp only[gl]at c2 hdel;simp only[←hW2]at hdel;clear h hj hj2 hms hmm him hW2;go_in;go_wp2_with fail;refine kX.out.mono ?_;rintro y w1 ⟨rfl,rfl⟩;go_wp2;go_ret;exact⟨rfl,HE.out⟩
def It.ended (i:It):It:=⟨i.id,i.cb,⟨0,0,true⟩⟩
theorem iw.ended (h:iw w ib mb most given its)(hb:aj w2 ib 147 #[.int .i64 (most:Int),.int .i64 (given:Int),.map (some mb)])(hm:jy w2 mb given (iR its))(hc:∀i∈its,fT w2 i.cb ⟨0,0,true⟩):iw w2 ib mb most given (its.map It.ended):=by
 have e1:(its.map It.ended).map It.cb=its.map It.cb:=by rw[List.map_map];rfl
 have e2:(its.map It.ended).map It.id=its.map It.id:=by rw[List.map_map];rfl
 refine⟨hb,by unfold iR at hm⊢;rw[List.map_map];exact hm,fun i hi=> ?_,fun i hi=> ?_,by rw[e2];exact h.nd,by have:=h.nf;unfold bQ at this⊢;rw[e1];exact this,h.few.1,by rw[List.length_map];exact h.few.2⟩
 ·obtain⟨i',hi',rfl⟩:=List.mem_map.1 hi;exact hc i' hi'
 ·obtain⟨i',hi',rfl⟩:=List.mem_map.1 hi;exact h.ids i' hi'
end
end
section
variable {I Kk M b gv ib j mb : Nat} {its : List It} {H : Nat → Nat} {a : Pool} {W0 w : World} {E : Nat → Addr} {G ids : List Nat} {dK : bE}
theorem Py:∀q∈bQ ib mb (its.eraseIdx j),q∈bQ ib mb its:=fun q hq=>by
 unfold bQ at hq⊢;simp only[List.mem_cons]at hq⊢;rcases hq with h|h|h
 ·exact .inl h
 ·exact .inr (.inl h)
 ·exact .inr (.inr (((List.eraseIdx_sublist its j).map It.cb).subset h))
theorem Pz {id cb:Nat}{c:gq}(h:jV W0 E H Kk M I b G w a ids its gv dK)(hj:its[j]?=some ⟨id,cb,c⟩):Calls Tryz.prog 34 #[.pointer (some ⟨b,0,none⟩),.int .i64 (id:Int)] w fun y w'=>y= .returned .nilIface∧qC W0 E H Kk M I b G w w' a ids (its.eraseIdx j) gv dK:=by
 obtain⟨C,GC,mb,hS,rfl,wD⟩:=h;have hbk:=hS.blk.blk;unfold iE.cells at hbk;have c16:=hbk.cell 16;simp only[gl]at c16;have HO:=qd (QK hS.oM hj);have HS:=qd hS;have HQ:=qd wD;clear hbk hS wD hj;go_in;go_wp2_with fail;refine HO.out.mono ?_;rintro y w1 ⟨rfl,hi,hm⟩;have hs:=HS.out.ZU hi hm (fun q hq=> .inl (by unfold bQ;simp at hq⊢;exact .inr (.inl hq))) (fun q hq=> .inl (Py q hq));have HE:=qd (show qC W0 E H Kk M I b (fC b C GC mb its) w w1 a ids (its.eraseIdx j) gv dK from HQ.out▸hs.to);clear hs hi hm HO;go_wp2;go_ret;exact⟨rfl,HE.out⟩
end
section
variable {es es' : List av} {key : Nat}
def tJ (es:List av):Nat→Option Nat:=fun k=>(look es k).map av.val
theorem UE (es:List av)(key k:Nat):look (rest es key) k=if k=key then none else look es k:=by
 unfold look rest;rw[List.find?_filter];split
 ·rename_i h;subst h;rw[List.find?_eq_none];intro x _;simp
 ·rename_i h;congr 1;funext x;by_cases hx:x.key=k
  ·simp[hx,h]
  ·simp[hx]
theorem Jj (l:List av)(e:av)(k:Nat):look (l++[e]) k=(look l k).or (if e.key=k then some e else none):=by
 unfold look;rw[List.find?_append];congr 1;by_cases h:e.key=k
 ·simp[h]
 ·simp[h]
theorem Xn (hn:(es.map av.key).Nodup)(key:Nat):(rest es key).length=if(tJ es key).isSome then es.length-1 else es.length:=by
 unfold tJ
 cases hl:look es key with
 |none=>rw[LH hl];simp
 |some e=>
  obtain⟨h1,rfl⟩:=rz hl;have hp:=List.perm_cons_erase h1;have h2:=(LJ hn hp).length_eq;rw[h2,List.length_erase_of_mem h1];simp
def noRoom (M:Nat)(o:Option Nat)(n:Nat):Bool:=o.isNone && decide (M≤n)
def J2 (M:Nat)(R:Nat→Option Nat)(n k v:Nat):Nat→Option Nat:=if noRoom M (R k) n then R else fun x=>if x=k then some v else R x
def yK (M:Nat)(o:Option Nat)(n:Nat):Nat:=if o.isSome||decide (M≤n)then n else n+1
def agI (R:Nat→Option Nat)(k:Nat):Nat→Option Nat:=fun x=>if x=k then none else R x
def agJ (o:Option Nat)(n:Nat):Nat:=if o.isSome then n-1 else n
theorem aaK {M:Nat}:tH M es key=noRoom M (tJ es key) es.length:=by
 unfold tH noRoom tJ
 cases look es key<;>rfl
theorem abI {M:Nat}{e:av}(hn:(es.map av.key).Nodup)(hn':(es'.map av.key).Nodup)(hp:es'.Perm (JZ M es e)):tJ es'=J2 M (tJ es) es.length e.key e.val∧es'.length=yK M (tJ es e.key) es.length:=by
 unfold JZ at hp;unfold J2;rw[aaK]at hp;by_cases hf:noRoom M (tJ es e.key) es.length=true
 ·rw[if_pos hf]at hp⊢;refine⟨funext fun k=> ?_, ?_⟩
  ·show(look es' k).map av.val=_;rw[DN hp hn'];rfl
  ·rw[hp.length_eq];unfold noRoom at hf;unfold yK;rw[Bool.and_eq_true]at hf;rw[hf.2,Bool.or_true,if_pos rfl]
 ·rw[if_neg hf]at hp⊢;refine⟨funext fun k=> ?_, ?_⟩
  ·show(look es' k).map av.val=_;rw[DN hp hn',Jj,UE];by_cases hk:k=e.key
   ·rw[if_pos hk,if_pos hk.symm,if_pos hk];rfl
   ·rw[if_neg hk,if_neg (fun h=>hk h.symm),if_neg hk,Option.or_none];rfl
  ·rw[hp.length_eq,List.length_append,Xn hn];unfold noRoom at hf;unfold yK
   cases hl:tJ es e.key with
   |none=>
    rw[hl]at hf;simp only[Option.isNone_none,Bool.true_and]at hf;simp[hf]
   |some v=>
    have:0<es.length:=by
     cases es with
     |nil=>simp[tJ,look]at hl
     |cons=>simp
    simp;omega
def ku (W0:World)(E:Nat→Addr)(H:Nat→Nat)(K M I b:Nat)(G:List Nat)(w:World)(R:Nat→Option Nat)(n:Nat)(its:List It)(gv:Nat):Prop:=
 ∃(a:Pool) (ids:List Nat) (dK:bE),jV W0 E H K M I b G w a ids its gv dK∧tJ a.ents=R∧a.ents.length=n
def GV (W0:World)(E:Nat→Addr)(H:Nat→Nat)(K M I b:Nat)(G:List Nat)(w w':World)(R:Nat→Option Nat)(n:Nat)(its:List It)(gv:Nat):Prop:=
 ∃G',ku W0 E H K M I b G' w' R n its gv∧(∀q∈G',q∈G∨w.heap.size≤q)∧Mod G w w'
section
variable {W0 : World} {E : Nat → Addr} {H : Nat → Nat} {K M I b : Nat} {G : List Nat} {w w' : World} {R : Nat → Option Nat} {n : Nat} {its : List It} {gv : Nat}
theorem ku.below (h:ku W0 E H K M I b G w R n its gv)(hb:Below w.heap.size w w'):ku W0 E H K M I b G w' R n its gv:=by
 obtain⟨a,ids,dK,h1,h2⟩:=h;exact⟨a,ids,dK,h1.below hb,h2⟩
theorem ku.fH (h:ku W0 E H K M I b G w R n its gv):∀q∈G,q<w.heap.size∧W0.heap.size≤q:=by
 obtain⟨a,ids,dK,h1,_⟩:=h;exact h1.facts.1
theorem ku.mod {S:List Nat}(h:ku W0 E H K M I b G w R n its gv)(hm:Mod S w w')(hS:∀q∈S,q∉G∧W0.heap.size≤q):ku W0 E H K M I b G w' R n its gv:=by
 obtain⟨a,ids,dK,h1,h2⟩:=h;exact⟨a,ids,dK,h1.mod hm hS,h2⟩
theorem ku.env (h:ku W0 E H K M I b G w R n its gv):Env W0 E w:=by
 obtain⟨a,ids,dK,h1,_⟩:=h;exact h1.facts.2.2.2.2.2.2.2.2.2
theorem GV.of {a:Pool}{ids:List Nat}{dK:bE}(h:qC W0 E H K M I b G w w' a ids its gv dK)(hR:tJ a.ents=R)(hn:a.ents.length=n):GV W0 E H K M I b G w w' R n its gv:=by
 obtain⟨F,h1,h2,h3⟩:=h;exact⟨F,⟨a,ids,dK,h1,hR,hn⟩,h2,h3⟩
theorem adi (H:Nat→Nat)(hE:Env W0 E w)(k m i:Int)(hcf:zm k m i=true)(K M I:Nat)(hkm:(1≤K∧K≤64)∧(1≤M∧M≤192)∧k=(K:Int)∧m=(M:Int)∧i=(I:Int))(Dg:1≤I∧I≤8):Calls Tryz.prog 27 #[kJ k m i] w fun y w'=>∃b G,y= .returned (.tuple #[.pointer (some ⟨b,0,none⟩),.nilIface])∧ku W0 E H K M I b G w' (fun _=>none) 0 [] 0∧(∀q∈G,w.heap.size≤q)∧Below w.heap.size w w':=by
 refine(adg H hE k m i hcf K M I hkm Dg).mono ?_;rintro y w' ⟨b,G,rfl,h1,h2,h3⟩;exact⟨b,G,rfl,⟨_,_,_,h1,rfl,rfl⟩,h2,h3⟩
theorem Xo (h:ku W0 E H K M I b G w R n its gv)(e:av)(he:nS H e):Calls Tryz.prog 28 #[.pointer (some ⟨b,0,none⟩),.int .u64 (e.key:Int),.int .u64 (e.val:Int),.int .u64 (e.hash:Int)] w fun y w'=>
  y= .returned (mW E (if noRoom M (R e.key) n then 2 else 0))∧GV W0 E H K M I b G w w' (J2 M R n e.key e.val) (yK M (R e.key) n) its gv:=by
 obtain⟨a,ids,dK,h1,rfl,rfl⟩:=h;refine(adf h1 e he).mono ?_;rintro y w' ⟨rfl,a',aO,dL,hto,hp,_⟩;obtain⟨F,hF,hs,hm⟩:=hto;have h2:=abI h1.facts.2.1 hF.facts.2.1 hp;exact⟨by unfold uL;rw[aaK],F,⟨a',aO,dL,hF,h2.1,h2.2⟩,hs,hm⟩
theorem adj (h:ku W0 E H K M I b G w R n its gv)(key:Nat)(h64:H key<18446744073709551616):Calls Tryz.prog 81 #[.pointer (some ⟨b,0,none⟩),.int .u64 (key:Int),.int .u64 (H key:Int)] w fun y w'=>y= .returned (.tuple #[.int .u64 (((R key).getD 0:Nat):Int),.bool (R key).isSome])∧GV W0 E H K M I b G w w' R n its gv:=by
 obtain⟨a,ids,dK,h1,rfl,rfl⟩:=h;refine(adh h1 key h64).mono ?_;rintro y w' ⟨rfl,dL,hto⟩;refine⟨?_,GV.of hto rfl rfl⟩;unfold Pn tJ
 cases look a.ents key<;>rfl
end
end
section
variable {j key m : Nat} {es : List av} {e : av}
def aeS (es:List av)(key:Nat)(y:Int):Prop:=(∃(i:Nat) (e:av),es[i]?=some e∧e.key=key∧y=(i:Int)∧∀k,k<i→∀e',es[k]?=some e'→e'.key≠key)∨((∀e∈es,e.key≠key)∧y= -1)
end
section
variable {es : List av} {j key : Nat} {e : av}
def without (es:List av)(key j:Nat):List av:=(es.take j).filter fun x=>x.key !=key
end
section
section
variable {w w' : World} {base mb M : Nat} {es : List av} {R : List Nat}
end
def cutAt (y:Option av)(hi:Nat):Option av:=match y with|none=>none|some m=>if m.hash≤hi then some m else none
end
section
variable {l : List av} {m : av} {b base : Nat} {w : World} {v : Value}
def Asc (l:List av):Prop:=l.Pairwise fun x y=>bG x y=true
theorem Asc.nodup (h:Asc l):l.Nodup:=h.imp fun hxy e=>by rw[e,zO]at hxy;cases hxy
theorem ZW (h:Asc l)(hm:∀e∈l,bG e m=true):Asc (l++[m]):=List.pairwise_append.2 ⟨h,List.pairwise_singleton _ _,fun x hx y hy=>by rw[List.mem_singleton.1 hy];exact hm x hx⟩
def below_ (hs:List Nat)(b:Nat):Nat:=(hs.filter fun h=>decide (h<b)).length
theorem wZ (hs:List Nat){a:Nat}(h:a≤b):below_ hs a≤below_ hs b:=by
 unfold below_
 induction hs with
 |nil=>simp
 |cons x l ih=>
  simp only[List.filter_cons];by_cases h1:x<a
  ·rw[if_pos (by simpa using h1),if_pos (by simp;omega)];simp only[List.length_cons];omega
  ·rw[if_neg (by simpa using h1)]
   split<;>(try simp only[List.length_cons])<;>omega
theorem Cc {hs:List Nat}{a x:Nat}(hx:x∈hs)(h1:a≤x)(h2:x<b):below_ hs a+1≤below_ hs b:=by
 obtain⟨s,t,rfl⟩:=List.append_of_mem hx;have g1:=wZ s (Nat.le_trans h1 (Nat.le_of_lt h2));have g2:=wZ t (Nat.le_trans h1 (Nat.le_of_lt h2));unfold below_ at g1 g2⊢;rw[List.filter_append,List.filter_append,List.filter_cons,List.filter_cons,if_neg (by simp;omega),if_pos (by simp;omega)];simp only[List.length_append,List.length_cons];omega
theorem below_le (hs:List Nat)(b:Nat):below_ hs b≤hs.length:=List.length_filter_le _ _
structure lZ (es:List av)(hs:List Nat)(n:Nat)(out:List av)(key hash:Nat):Prop where
 oo:Asc out
 mem:∀e,e∈out↔e∈es∧bG e ⟨key,0,hash⟩=true
 cnt:n≤out.length+below_ hs hash
section
variable {es out : List av} {hs : List Nat} {n key hash hi : Nat}
theorem lZ.start (es:List av)(hs:List Nat):lZ es hs 0 [] 0 0:=⟨.nil,fun e=>by simp[bG],Nat.zero_le _⟩
theorem Er {l':List av}(hn:l.Nodup)(hs:∀x∈l,x∈l'):l.length≤l'.length:=by
 induction l generalizing l' with
 |nil=>exact Nat.zero_le _
 |cons x l ih=>
  rw[List.nodup_cons]at hn;obtain⟨s,t,rfl⟩:=List.append_of_mem (hs x (by simp))
  have h1:=ih (l':=s++t) hn.2 (fun y hy=>by
   have:=hs y (by simp[hy]);simp only[List.mem_append,List.mem_cons]at this⊢;rcases this with h|h|h
   ·exact .inl h
   ·rw[h]at hy;exact absurd hy hn.1
   ·exact .inr h)
  simp only[List.length_append,List.length_cons]at h1⊢;omega
theorem lZ.len (h:lZ es hs n out key hash):out.length≤es.length:=Er h.oo.nodup (fun e he=>((h.mem e).1 he).1)
theorem lZ.few (h:lZ es hs n out key hash)(h1:es.length≤192)(h2:hs.length≤32):n≤224:=by
 have:=h.cnt;have:=h.len;have:=below_le hs hash;omega
theorem lZ.some_ (h:lZ es hs n out key hash)(hn:(es.map av.key).Nodup)(hm:gM ⟨key,0,hash⟩ (upto es hi) (some m)):lZ es hs (n+1) (out++[m]) (m.key+1) m.hash∧(∀e∈out,bG e m=true)∧m.hash≤hi∧m∈es:=by
 obtain⟨m1,m2⟩:=pO.1 hm.1
 have hlt:∀e∈out,bG e m=true:=fun e he=>by
  have h1:=((h.mem e).1 he).2;have h2:=hm.2.1;simp[bG]at h1 h2⊢;omega
 have hh:=LG hm.2.1;refine⟨⟨ZW h.oo hlt,fun e=>⟨fun he=> ?_,fun he=> ?_⟩, ?_⟩,hlt,m2,m1⟩
 ·rcases List.mem_append.1 he with h1|h1
  ·refine⟨((h.mem e).1 h1).1, ?_⟩;have:=hlt e h1;simp[bG]at this⊢;omega
  ·rw[List.mem_singleton.1 h1];exact⟨m1,by simp[bG]⟩
 ·rw[List.mem_append,List.mem_singleton]
  cases hl:bG e ⟨key,0,hash⟩with
  |true=>exact .inl ((h.mem e).2 ⟨he.1,hl⟩)
  |false=>
   right;have h1:=he.2;have h2:=hm.2.2 e (pO.2 ⟨he.1,by simp[bG]at h1;omega⟩) hl
   have hk:e.key=m.key:=by simp[bG]at h1 h2;omega
   have e1:=jq hn he.1;have e2:=jq hn m1;rw[hk,e2]at e1;exact(Option.some.inj e1).symm
 ·have:=h.cnt;have:=wZ hs hh;simp only[List.length_append,List.length_cons,List.length_nil];omega
theorem lZ.none_ (h:lZ es hs n out key hash)(hm:gM ⟨key,0,hash⟩ (upto es hi) none)(h1:hash≤hi)(h2:hi∈hs):lZ es hs (n+1) out 0 (hi+1):=by
 refine⟨h.oo,fun e=>⟨fun he=> ?_,fun he=> ?_⟩, ?_⟩
 ·have:=(h.mem e).1 he;refine⟨this.1, ?_⟩;have h3:=this.2;simp[bG]at h3⊢;omega
 ·have h3:=he.2;exact(h.mem e).2 ⟨he.1,hm e (pO.2 ⟨he.1,by simp[bG]at h3;omega⟩)⟩
 ·have:=h.cnt;have:=Cc (b:=hi+1) h2 h1 (by omega);omega
end
end
section
structure AY where
 st:Nat
 key:Nat
 val:Nat
def AY.zero:AY:=⟨0,0,0⟩
def gq.passed (c:gq)(e:av):Prop:=c.done=true∨bG e ⟨c.key,0,c.hash⟩=true
inductive iT (es:List av)(hs:List Nat)(c:gq):AY→gq→Prop
 |done (h:c.done=true):iT es hs c ⟨3,0,0⟩ c
 |yield (h:c.done=false) (hi:Nat) (m:av) (h1:c.hash≤hi) (h2:hi∈hs) (h3:hi<18446744073709551616) (h4:∀x∈hs,c.hash≤x→hi≤x) (hm:gM ⟨c.key,0,c.hash⟩ (upto es hi) (some m)):iT es hs c ⟨1,m.key,m.val⟩ (behind m.hash m.key)
 |skip (h:c.done=false) (hi:Nat) (h1:c.hash≤hi) (h2:hi∈hs) (h3:hi<18446744073709551616) (h4:∀x∈hs,c.hash≤x→hi≤x) (hm:gM ⟨c.key,0,c.hash⟩ (upto es hi) none):iT es hs c ⟨if hi<18446744073709551615 then 2 else 3,0,0⟩ (behind hi 18446744073709551615)
theorem LP {h k:Nat}(h1:h<18446744073709551616):(behind h k).ok:=by
 unfold behind gq.ok;split
 ·exact⟨h1,by simp only;omega⟩
 ·split
  ·exact⟨by simp only;omega,by simp⟩
  ·simp
theorem UF {es:List av}(hn:(es.map av.key).Nodup):∀e∈es,∀e'∈es,e.key=e'.key→e=e':=fun e he e' he' hk=>by
 have e1:=jq hn he;have e2:=jq hn he';rw[hk,e2]at e1;exact(Option.some.inj e1).symm
section
variable {es out : List av} {hs : List Nat} {n : Nat} {c c' c'' : gq} {i i' : AY}
structure Way (es:List av)(hs:List Nat)(n:Nat)(out:List av)(c:gq):Prop where
 oo:Asc out
 mem:∀e,e∈out↔e∈es∧c.passed e
 cnt:c.done=false→n≤out.length+below_ hs c.hash
 ok:c.ok
theorem Way.start (es:List av)(hs:List Nat):Way es hs 0 [] ⟨0,0,false⟩:=⟨.nil,fun e=>by simp[gq.passed,bG],fun _=>Nat.zero_le _,by simp[gq.ok]⟩
theorem wE {es:List av}{hash key:Nat}(h1:hash<18446744073709551616)(h2:key<18446744073709551616)(he:∀e∈es,e.hash<18446744073709551616∧e.key<18446744073709551616){e:av}(h:e∈es):(behind hash key).passed e↔bG e ⟨key+1,0,hash⟩=true:=by
 have:=he e h;unfold behind gq.passed;split
 ·simp[bG]
 ·split
  ·simp[bG];omega
  ·simp[bG];omega
theorem Way.adk (h:Way es hs n out c)(hd:c.done=false):lZ es hs n out c.key c.hash:=⟨h.oo,fun e=>by rw[h.mem e];unfold gq.passed;rw[hd];simp,h.cnt hd⟩
theorem ZX {hash key:Nat}(h:lZ es hs n out (key+1) hash)(h1:hash<18446744073709551616)(h2:key<18446744073709551616)(he:∀e∈es,e.hash<18446744073709551616∧e.key<18446744073709551616):Way es hs n out (behind hash key):=by
 refine⟨h.oo,fun e=>⟨fun hh=> ?_,fun hh=> ?_⟩,fun hd=> ?_,LP h1⟩
 ·obtain⟨g1,g2⟩:=(h.mem e).1 hh;exact⟨g1,(wE h1 h2 he g1).2 g2⟩
 ·exact(h.mem e).2 ⟨hh.1,(wE h1 h2 he hh.1).1 hh.2⟩
 ·have h3:=h.cnt
  have:hash≤(behind hash key).hash:=by
   unfold behind at hd⊢;split
   ·exact Nat.le_refl _
   ·split
    ·exact Nat.le_succ _
    ·rename_i a b;rw[if_neg a,if_neg b]at hd;cases hd
  have:=wZ hs this;omega
theorem Way.next (h:Way es hs n out c)(hn:(es.map av.key).Nodup)(he:∀e∈es,e.hash<18446744073709551616∧e.key<18446744073709551616)(hN:iT es hs c i c'):
  ∃out',Way es hs (n+1) out' c'∧((i.st=1∧c.done=false∧∃m∈es,out'=out++[m]∧(∀e∈out,bG e m=true)∧¬c.passed m∧i.key=m.key∧i.val=m.val∧c'=behind m.hash m.key)∨(i.st≠1∧out'=out∧i.key=0∧i.val=0∧(i.st=2∨i.st=3)∧(i.st=3↔c'.done=true))):=by
 cases hN with
 |done hd=>exact⟨out,⟨h.oo,h.mem,fun hh=>(by rw[hd]at hh;cases hh),h.ok⟩,.inr ⟨by simp,rfl,rfl,rfl,.inr rfl,by simp[hd]⟩⟩
 |yield hd hi m h1 h2 h3 h4 hm=>
  obtain⟨w1,w2,w3,w4⟩:=(h.adk hd).some_ hn hm;have hb:=he m w4;exact⟨out++[m],ZX w1 hb.1 hb.2 he,.inl ⟨rfl,hd,m,w4,rfl,w2,fun hp=>(by rcases hp with hp|hp;rw[hd]at hp;cases hp;have:=hm.2.1;rw[hp]at this;cases this),rfl,rfl,rfl⟩⟩
 |skip hd hi h1 h2 h3 h4 hm=>
  have hcn:=h.cnt hd
  have aaL:∀e∈es,((behind hi 18446744073709551615).passed e↔c.passed e):=fun e hh=>by
   rw[wE h3 (by omega) he hh];have hb:=he e hh;unfold gq.passed;rw[hd];constructor
   ·intro hl;right;exact hm e (pO.2 ⟨hh,by simp[bG]at hl;omega⟩)
   ·rintro(hl|hl)
    ·cases hl
    ·simp[bG]at hl⊢;omega
  refine⟨out,⟨h.oo,fun e=>⟨fun hh=> ?_,fun hh=> ?_⟩,fun hx=> ?_,LP h3⟩,.inr ⟨?_,rfl,rfl,rfl, ?_, ?_⟩⟩
  ·obtain⟨g1,g2⟩:=(h.mem e).1 hh;exact⟨g1,(aaL e g1).2 g2⟩
  ·exact(h.mem e).2 ⟨hh.1,(aaL e hh.1).1 hh.2⟩
  ·have hx':hi<18446744073709551615:=by
    unfold behind at hx;rw[if_neg (by omega)]at hx;by_cases hlt:hi<18446744073709551615
    ·exact hlt
    ·rw[if_neg hlt]at hx;cases hx
   have hb:(behind hi 18446744073709551615).hash=hi+1:=by
    unfold behind;rw[if_neg (by omega),if_pos hx']
   rw[hb];have:=Cc (b:=hi+1) h2 h1 (by omega);omega
  ·simp only;split<;>omega
  ·simp only;split<;>simp
  ·unfold behind
   by_cases hlt:hi<18446744073709551615<;>simp[hlt]
theorem Way.few (h:Way es hs n out c)(hd:c.done=false)(hN:iT es hs c i c'):n<es.length+hs.length:=by
 have h1:=h.cnt hd;have h2:out.length≤es.length:=Er h.oo.nodup (fun e he=>((h.mem e).1 he).1)
 have h3:below_ hs c.hash<hs.length:=by
  have hx:∃hi,c.hash≤hi∧hi∈hs:=by
   cases hN with
   |done h=>rw[hd]at h;cases h
   |yield h hi m h1 h2=>exact⟨hi,h1,h2⟩
   |skip h hi h1 h2=>exact⟨hi,h1,h2⟩
  obtain⟨hi,g1,g2⟩:=hx;have:=Cc (b:=hi+1) g2 g1 (by omega);have:=below_le hs (hi+1);omega
 omega
theorem Way.adl (h:Way es hs n out c)(hn:(es.map av.key).Nodup)(hd:c.done=true):out.Perm es:=
 (List.perm_ext_iff_of_nodup h.oo.nodup (by
  unfold List.Nodup at hn⊢;rw[List.pairwise_map]at hn
  exact hn.imp fun hxy e=>hxy (by rw[e]))).2 fun e=>⟨fun he=>((h.mem e).1 he).1,fun he=>(h.mem e).2 ⟨he,.inl hd⟩⟩
end
end
end Go.Proofs.YtbfpfgfgfjhpfaaGreatDoor
