/- A new map; a map's Get. No statement of the claim. -/
import Derived.Test.YtchlkhkeonnmdacGreatDoorRmE
import Derived.Test.YtchlkhkeonnmdacGreatDoorSqT
import Derived.Test.YtchlkhkeonnmdacGreatDoorLaneP
import Derived.Maps.RangeWalk
import Derived.Test.YtchlkhkeonnmdacGreatDoorRmB
import Derived.Laws.CopyOwn
import Derived.Laws.AppendOwn
import Derived.Shelf.Spec.SlicesInsert
namespace Go.Proofs.YtchlkhkeonnmdacGreatDoor
set_option maxRecDepth 100000
set_option maxHeartbeats 4000000
open Go.RowKit AmC Go.MapKept
open Go.ChangeMaps (setBlock heap_setBlock_same heap_setBlock_other)
variable {W0 w : World} {E : Nat → Addr}
theorem rt_New (H:Nat→Nat)(hE:Env W0 E w)(k m i:Int)(hcf:cfgOk k m i=true)(K M I:Nat)(hkm:(1≤K∧K≤64)∧(1≤M∧M≤192)∧k=(K:Int)∧m=(M:Int)∧i=(I:Int))(hi8:1≤I∧I≤8):Calls Tryz.prog 12 #[cfgV k m i] w fun y w'=>∃b G,y= .returned (.tuple #[.pointer (some ⟨b,0,none⟩),.nilIface])∧RtAt W0 E H K M I b G w' pool0 [] [] 0 ⟨0,0,0⟩∧(∀q∈G,w.heap.size≤q)∧Below w.heap.size w w':=by
 obtain⟨hK,hM,rfl,rfl,rfl⟩:=hkm;have HI:=qd (And.intro hK (And.intro hM hi8));have hB0:=Blk.new w 39 #[.int .i64 (K:Int),.int .i64 (M:Int),.int .i64 (I:Int)];have hb0:=(Below.refl w.heap.size w).alloc (Nat.le_refl _) (.cells #[.int .i64 (K:Int),.int .i64 (M:Int),.int .i64 (I:Int)] 39);obtain⟨W,hW⟩:∃W,W=w.alloc (.cells #[.int .i64 (K:Int),.int .i64 (M:Int),.int .i64 (I:Int)] 39):=⟨_,rfl⟩;rw[←hW]at hB0 hb0;have hnb:=core_New H (hE.next hb0) (K:Int) (M:Int) (I:Int) hcf K M I ⟨hK,hM,rfl,rfl,rfl⟩;have c:=hB0.c3;unfold cfgV at hnb⊢;have HNw:=qd hnb;have HX:=qd hB0;have HB:=qd hb0;have HW:=qd hW;have HE:=qd hE;clear hnb hB0 hb0 hW hK hM hi8 hE;go_in;go_upto_region 1 with fail;rw[←HW.out];go_wp2_with fail;refine HNw.out.mono ?_;rintro y w1 ⟨cb,rfl,hnew⟩;obtain⟨GC,hC,hsu,hmo⟩:=new_at hnew;have hb1:=hmo.to_below;have HC:=qd hC;have HSu:=qd (show∀q∈GC,W.heap.size≤q from fun q hq=>(hsu q hq).elim (fun k=>by cases k) (fun k=>k));have HGl:=qd (show∀q∈GC,q<w1.heap.size from fun q hq=>(hC.facts.2.2.2.2.2.2.2.2.2.2.1 q hq).1);replace HX:=qB hb1 HX;have HB1:=qd (below_nx hb1 HB.out);have HL0:=qd hb1.size;have HZ:=qd (show w.heap.size<W.heap.size from by rw[HW.out];simp);clear hnew hC hsu hmo hb1 HNw c;have c:=HX.out.c3;have HIt:=qd (iters_New I HI.out.2.2 w1);unfold coreP;go_wp2_with fail;refine HIt.out.mono ?_;rintro y w2 ⟨rfl,hit,hb2⟩;replace HC:=qd (HC.out.below hb2);replace HX:=qB hb2 HX;have HB2:=qd (below_nx hb2 HB1.out);have HIa:=qd hit
 have HL1:=qd (show W.heap.size≤w1.heap.size∧w1.heap.size+1<w2.heap.size from⟨HL0.out,hit.blk.lt⟩);clear hit hb2 HIt c;have c:=HX.out.c3;obtain⟨ib,hib⟩:∃ib,ib=w1.heap.size+1:=⟨_,rfl⟩;obtain⟨mb,hmb⟩:∃mb,mb=w1.heap.size:=⟨_,rfl⟩;rw[←hib]at HIa HL1⊢;rw[←hmb]at HIa;have HQ:=qd (show mb=w1.heap.size∧ib=w1.heap.size+1 from⟨hmb,hib⟩);clear hib hmb;obtain⟨C,hCdef⟩:∃C:RmC,C=⟨(K:Int),(M:Int),(I:Int),cb,0,0,⟨0,0,0⟩,⟨0,0,0⟩,ib,⟨0,0,0⟩,⟨0,0,0⟩⟩:=⟨_,rfl⟩;have hbb:=(Below.refl w2.heap.size w2).alloc (Nat.le_refl _) (.cells C.cells 85);have hnb:=Blk.new w2 85 C.cells
 have hS:RtS W0 E H K M I w2.heap.size [] w C GC mb 0 (w2.alloc (.cells C.cells 85)) pool0 [] []:=by
  have h1:=HL1.out.1;have h2:=HL1.out.2;obtain⟨g1,g2⟩:=HQ.out;have hg:=HGl.out;have hs:=HSu.out;have hz:=HZ.out;have hw0:=HE.out.size
  have e1:C.cb=cb:=by rw[hCdef]
  have e2:C.ib=ib:=by rw[hCdef]
  have hf:∀q,q∈itFoot ib mb []→q=ib∨q=mb:=fun q hq=>by unfold itFoot at hq;simpa using hq
  refine⟨⟨hnb,by rw[hCdef];exact Nat.zero_le _,by rw[hCdef];exact Nat.zero_le _⟩,by rw[hCdef];exact⟨rfl,rfl,rfl⟩,by rw[e1];exact HC.out.below hbb,by rw[e2];exact HIa.out.below hbb,⟨by omega,fun q hq=> ?_⟩,⟨fun hh=>by have:=hg _ hh;omega,fun hh=> ?_,fun q hq hh=> ?_⟩,fun q hq=> .inr ?_,(Mod.of_below (below_nx hbb HB2.out) []),hw0⟩
  ·rw[e2]at hq;rcases hf q hq with k|k<;>omega
  ·rw[e2]at hh;rcases hf _ hh with k|k<;>omega
  ·rw[e2]at hq;have:=hg q hh;rcases hf q hq with k|k<;>omega
  ·rcases mem_rtFoot.1 hq with k|k|k
   ·omega
   ·rw[e2]at k;rcases hf q k with k|k<;>omega
   ·have:=hs q k;omega
 have hto:=hS.to;have hbz:=below_nx hbb HB2.out;rw[hCdef]at hto hbz;unfold RmC.cells at hto hbz;have HF:=qd (And.intro hto hbz);clear hS hto hbz hbb hnb hCdef;go_wp2;refine bodyPost_ret (v:= .tuple #[.pointer (some ⟨w2.heap.size,0,none⟩),.nilIface]) (by simp[results,Tryz.results12,go_sem]) rfl ?_;obtain⟨G',k1,k2,k3⟩:=HF.out.1;exact⟨w2.heap.size,G',rfl,k1,fun q hq=>(k2 q hq).elim (fun z=>by cases z) (fun z=>z),HF.out.2⟩
end Go.Proofs.YtchlkhkeonnmdacGreatDoor

/-! The iterators that are open: At of one that is not there, Close, EndAll. No statement of the claim. -/
namespace Go.Proofs.YtchlkhkeonnmdacGreatDoor
set_option maxRecDepth 100000
set_option maxHeartbeats 4000000
open Go.RowKit AmC Go.MapKept
open Go.ChangeMaps (setBlock heap_setBlock_same heap_setBlock_other)
variable {ops : Array Oper} {rest : List Oper} {o : Oper} {a : Act} {Q : Exit → Act → World → Prop} {r : Nat} {seen : Array Nat} {E : Nat → Addr} {w2 : World}
theorem map_erase {α β:Type}(f:α→β):∀(l:List α) (j:Nat),(l.map f).eraseIdx j=(l.eraseIdx j).map f
 | [],_=>by simp
 |x::l,0=>rfl
 |x::l,j+1=>by simp[map_erase f l j]
section
variable {P : Program} {w w' : World} {b g : Nat} {l : List (Nat × Nat)} {t k e : TypeId}
theorem MapL.del (h:MapL w b g l)(ht:P.underlying t=some (.map k e))(hk:P.underlying k=some (.int .i64)){j:Nat}{p:Nat×Nat}(hj:l[j]?=some p)(hn:(l.map Prod.fst).Nodup)(ty:TypeId):
  (Builtin.delete_ #[t,k] ty #[.map (some b),.int .i64 (p.1:Int)]).run P w= .ok (.tuple #[]) (setBlock w b (.map ((l.eraseIdx j).map mEnt).toArray g)):=by
 obtain⟨a,h1,h2,h4⟩:=find_now (p.1:Int) l 0;have h3:=run_findKey (P:=P) (w:=w) hk h1
 cases a with
 |none=>
  have:findL l (p.1:Int)=none:=by cases hf:findL l (p.1:Int)with|none=>rfl|some q=>rw[hf]at h2;cases h2
  exact absurd rfl (findL_none.1 this p (List.mem_of_getElem? hj))
 |some q=>
  obtain⟨i,v⟩:=q;obtain⟨j',h5,h6⟩:=h4 _ rfl
  have hij:i=j:=by
   simp only[Nat.zero_add]at h5;rw[List.getElem?_map]at h6
   cases hq:l[j']? with
   |none=>rw[hq]at h6;cases h6
   |some q'=>
    rw[hq]at h6
    have e0:(q'.1:Int)=(p.1:Int):=by simpa using h6
    have e1:q'.1=p.1:=by omega
    have a1:(l.map Prod.fst)[j']?=some p.1:=by rw[List.getElem?_map,hq];simp[e1]
    have a2:(l.map Prod.fst)[j]?=some p.1:=by rw[List.getElem?_map,hj];rfl
    obtain⟨b1,b2⟩:=List.getElem?_eq_some_iff.1 a1;obtain⟨b3,b4⟩:=List.getElem?_eq_some_iff.1 a2;rw[h5];have hp:=List.pairwise_iff_getElem.1 hn;rcases Nat.lt_trichotomy j' j with z|z|z
    ·exact absurd (b2.trans b4.symm) (hp _ _ b1 b3 z)
    ·exact z
    ·exact absurd (b4.trans b2.symm) (hp _ _ b3 b1 z)
  subst hij;simp[Builtin.delete_,run_underlying ht,Go.MapKept.run_getObj_map (show w.heap[b]?=some (.map (l.map mEnt).toArray g)from h),run_checkKey hk key_int,h3,Go.MapKept.run_setObj_map _ (show w.heap[b]?=some (.map (l.map mEnt).toArray g)from h),Result.andThen,setBlock,map_erase]
end
section
variable {w : World} {ib mb most given : Nat} {its : List It}
theorem itMap_fst (its:List It):(itMap its).map Prod.fst=its.map It.id:=by unfold itMap;rw[List.map_map];rfl
theorem ItAt.mb_cb (h:ItAt w ib mb most given its){i:It}(hi:i∈its):mb≠i.cb∧ib≠i.cb∧ib≠mb:=by
 have:=h.nf;unfold itFoot at this;rw[List.nodup_cons,List.nodup_cons]at this;have hm:=List.mem_map_of_mem (f:=It.cb) hi;exact⟨fun e=>this.2.1 (e▸hm),fun e=>this.1 (List.mem_cons_of_mem _ (e▸hm)),fun e=>this.1 (by rw[e];simp)⟩
theorem ItAt.erased {j:Nat}(h:ItAt w ib mb most given its)(hb:Blk w2 ib 128 #[.int .i64 (most:Int),.int .i64 (given:Int),.map (some mb)])(hm:MapL w2 mb given ((itMap its).eraseIdx j))(hmod:Mod [mb] w w2):ItAt w2 ib mb most given (its.eraseIdx j):=by
 have hs:=List.eraseIdx_sublist its j;refine⟨hb,by unfold itMap at hm⊢;rw[←map_erase];exact hm,fun i hi=>(h.cur i (hs.subset hi)).mod hmod (fun hh=>(h.mb_cb (hs.subset hi)).1 (List.mem_singleton.1 hh).symm),fun i hi=>h.ids i (hs.subset hi),h.nd.sublist (hs.map _), ?_,h.few.1,by have:=hs.length_le;have:=h.few.2;omega⟩;have:=h.nf;unfold itFoot at this⊢;exact this.sublist (((hs.map _).cons_cons _).cons_cons _)
theorem iters_Close {j id cb:Nat}{c:Cur}(h:ItAt w ib mb most given its)(hj:its[j]?=some ⟨id,cb,c⟩):Calls Tryz.prog 52 #[.pointer (some ⟨ib,0,none⟩),.int .i64 (id:Int)] w fun y w'=>y= .returned .nilIface∧ItAt w' ib mb most given (its.eraseIdx j)∧Mod [mb] w w':=by
 have HAt:=qd (iters_At h (List.mem_of_getElem? hj))
 have hj2:(itMap its)[j]?=some (id,cb):=by unfold itMap;rw[List.getElem?_map,hj];rfl
 have hdel:=fun ty=>h.map.del (P:=Tryz.prog) (t:=126) Tryz.underlying126 Tryz.underlying3 hj2 (by rw[itMap_fst];exact h.nd) ty;have hms:=h.map.set_ ((itMap its).eraseIdx j) given;have hmm:=h.map.mod_ (.map (((itMap its).eraseIdx j).map mEnt).toArray given);obtain⟨W2,hW2⟩:∃W2,W2=setBlock w mb (.map (((itMap its).eraseIdx j).map mEnt).toArray given):=⟨_,rfl⟩;rw[←hW2]at hms hmm;have him:ib∉[mb]:=fun hh=>(h.mb_cb (List.mem_of_getElem? hj)).2.2 (List.mem_singleton.1 hh);have HE:=qd (And.intro (h.erased (j:=j) (h.blk.mod hmm him) hms hmm) hmm);have c2:=h.blk.cell 2;simp only[gl]at c2 hdel;simp only[←hW2]at hdel;clear h hj hj2 hms hmm him hW2;go_in;go_wp2_with fail;refine HAt.out.mono ?_;rintro y w1 ⟨rfl,rfl⟩;go_wp2;go_ret;exact⟨rfl,HE.out⟩
def It.ended (i:It):It:=⟨i.id,i.cb,⟨0,0,true⟩⟩
theorem ItAt.ended (h:ItAt w ib mb most given its)(hb:Blk w2 ib 128 #[.int .i64 (most:Int),.int .i64 (given:Int),.map (some mb)])(hm:MapL w2 mb given (itMap its))(hc:∀i∈its,CurAt w2 i.cb ⟨0,0,true⟩):ItAt w2 ib mb most given (its.map It.ended):=by
 have e1:(its.map It.ended).map It.cb=its.map It.cb:=by rw[List.map_map];rfl
 have e2:(its.map It.ended).map It.id=its.map It.id:=by rw[List.map_map];rfl
 refine⟨hb,by unfold itMap at hm⊢;rw[List.map_map];exact hm,fun i hi=> ?_,fun i hi=> ?_,by rw[e2];exact h.nd,by have:=h.nf;unfold itFoot at this⊢;rw[e1];exact this,h.few.1,by rw[List.length_map];exact h.few.2⟩
 ·obtain⟨i',hi',rfl⟩:=List.mem_map.1 hi;exact hc i' hi'
 ·obtain⟨i',hi',rfl⟩:=List.mem_map.1 hi;exact h.ids i' hi'
end
end Go.Proofs.YtchlkhkeonnmdacGreatDoor

/-! A map's Close and Clear by their contracts. No statement of the claim. -/
namespace Go.Proofs.YtchlkhkeonnmdacGreatDoor
set_option maxRecDepth 100000
set_option maxHeartbeats 4000000
open Go.RowKit AmC Go.MapKept
open Go.ChangeMaps (setBlock heap_setBlock_same heap_setBlock_other)
variable {I Kk M b gv ib j mb : Nat} {its : List It} {H : Nat → Nat} {a : Pool} {W0 w : World} {E : Nat → Addr} {G ids : List Nat} {lst : Cnt}
theorem itFoot_erase:∀q∈itFoot ib mb (its.eraseIdx j),q∈itFoot ib mb its:=fun q hq=>by
 unfold itFoot at hq⊢;simp only[List.mem_cons]at hq⊢;rcases hq with h|h|h
 ·exact .inl h
 ·exact .inr (.inl h)
 ·exact .inr (.inr (((List.eraseIdx_sublist its j).map It.cb).subset h))
theorem rt_Close {id cb:Nat}{c:Cur}(h:RtAt W0 E H Kk M I b G w a ids its gv lst)(hj:its[j]?=some ⟨id,cb,c⟩):Calls Tryz.prog 23 #[.pointer (some ⟨b,0,none⟩),.int .i64 (id:Int)] w fun y w'=>y= .returned .nilIface∧RtTo W0 E H Kk M I b G w w' a ids (its.eraseIdx j) gv lst:=by
 obtain⟨C,GC,mb,hS,rfl,hlst⟩:=h;have hbk:=hS.blk.blk;unfold RmC.cells at hbk;have c16:=hbk.cell 16;simp only[gl]at c16;have HO:=qd (iters_Close hS.itr hj);have HS:=qd hS;have HQ:=qd hlst;clear hbk hS hlst hj;go_in;go_wp2_with fail;refine HO.out.mono ?_;rintro y w1 ⟨rfl,hi,hm⟩;have hs:=HS.out.setI hi hm (fun q hq=> .inl (by unfold itFoot;simp at hq⊢;exact .inr (.inl hq))) (fun q hq=> .inl (itFoot_erase q hq));have HE:=qd (show RtTo W0 E H Kk M I b (rtFoot b C GC mb its) w w1 a ids (its.eraseIdx j) gv lst from HQ.out▸hs.to);clear hs hi hm HO;go_wp2;go_ret;exact⟨rfl,HE.out⟩
end Go.Proofs.YtchlkhkeonnmdacGreatDoor

/-! The map as a function of keys, whatever the hashes. No statement of the claim. -/
namespace Go.Proofs.YtchlkhkeonnmdacGreatDoor
set_option maxRecDepth 100000
set_option maxHeartbeats 4000000
open Go.RowKit AmC Go.MapKept
open Go.ChangeMaps (setBlock heap_setBlock_same heap_setBlock_other)
variable {es es' : List Ent} {key : Nat}
def fnM (es:List Ent):Nat→Option Nat:=fun k=>(look es k).map Ent.val
theorem lookM_rest (es:List Ent)(key k:Nat):look (rest es key) k=if k=key then none else look es k:=by
 unfold look rest;rw[List.find?_filter];split
 ·rename_i h;subst h;rw[List.find?_eq_none];intro x _;simp
 ·rename_i h;congr 1;funext x;by_cases hx:x.key=k
  ·simp[hx,h]
  ·simp[hx]
theorem lookM_snoc (l:List Ent)(e:Ent)(k:Nat):look (l++[e]) k=(look l k).or (if e.key=k then some e else none):=by
 unfold look;rw[List.find?_append];congr 1;by_cases h:e.key=k
 ·simp[h]
 ·simp[h]
theorem restM_len (hn:(es.map Ent.key).Nodup)(key:Nat):(rest es key).length=if(fnM es key).isSome then es.length-1 else es.length:=by
 unfold fnM
 cases hl:look es key with
 |none=>rw[rest_none hl];simp
 |some e=>
  obtain⟨h1,rfl⟩:=look_mem hl;have hp:=List.perm_cons_erase h1;have h2:=(rest_cons hn hp).length_eq;rw[h2,List.length_erase_of_mem h1];simp
def noRoom (M:Nat)(o:Option Nat)(n:Nat):Bool:=o.isNone && decide (M≤n)
def putF (M:Nat)(R:Nat→Option Nat)(n k v:Nat):Nat→Option Nat:=if noRoom M (R k) n then R else fun x=>if x=k then some v else R x
def putN (M:Nat)(o:Option Nat)(n:Nat):Nat:=if o.isSome||decide (M≤n)then n else n+1
def delF (R:Nat→Option Nat)(k:Nat):Nat→Option Nat:=fun x=>if x=k then none else R x
def delN (o:Option Nat)(n:Nat):Nat:=if o.isSome then n-1 else n
theorem fullM {M:Nat}:fullB M es key=noRoom M (fnM es key) es.length:=by
 unfold fullB noRoom fnM
 cases look es key<;>rfl
theorem fnM_put {M:Nat}{e:Ent}(hn:(es.map Ent.key).Nodup)(hn':(es'.map Ent.key).Nodup)(hp:es'.Perm (putL M es e)):fnM es'=putF M (fnM es) es.length e.key e.val∧es'.length=putN M (fnM es e.key) es.length:=by
 unfold putL at hp;unfold putF;rw[fullM]at hp;by_cases hf:noRoom M (fnM es e.key) es.length=true
 ·rw[if_pos hf]at hp⊢;refine⟨funext fun k=> ?_, ?_⟩
  ·show(look es' k).map Ent.val=_;rw[look_perm hp hn'];rfl
  ·rw[hp.length_eq];unfold noRoom at hf;unfold putN;rw[Bool.and_eq_true]at hf;rw[hf.2,Bool.or_true,if_pos rfl]
 ·rw[if_neg hf]at hp⊢;refine⟨funext fun k=> ?_, ?_⟩
  ·show(look es' k).map Ent.val=_;rw[look_perm hp hn',lookM_snoc,lookM_rest];by_cases hk:k=e.key
   ·rw[if_pos hk,if_pos hk.symm,if_pos hk];rfl
   ·rw[if_neg hk,if_neg (fun h=>hk h.symm),if_neg hk,Option.or_none];rfl
  ·rw[hp.length_eq,List.length_append,restM_len hn];unfold noRoom at hf;unfold putN
   cases hl:fnM es e.key with
   |none=>
    rw[hl]at hf;simp only[Option.isNone_none,Bool.true_and]at hf;simp[hf]
   |some v=>
    have:0<es.length:=by
     cases es with
     |nil=>simp[fnM,look]at hl
     |cons=>simp
    simp;omega
def MpAt (W0:World)(E:Nat→Addr)(H:Nat→Nat)(K M I b:Nat)(G:List Nat)(w:World)(R:Nat→Option Nat)(n:Nat)(its:List It)(gv:Nat):Prop:=
 ∃(a:Pool) (ids:List Nat) (lst:Cnt),RtAt W0 E H K M I b G w a ids its gv lst∧fnM a.ents=R∧a.ents.length=n
def MpTo (W0:World)(E:Nat→Addr)(H:Nat→Nat)(K M I b:Nat)(G:List Nat)(w w':World)(R:Nat→Option Nat)(n:Nat)(its:List It)(gv:Nat):Prop:=
 ∃G',MpAt W0 E H K M I b G' w' R n its gv∧(∀q∈G',q∈G∨w.heap.size≤q)∧Mod G w w'
section
variable {W0 : World} {E : Nat → Addr} {H : Nat → Nat} {K M I b : Nat} {G : List Nat} {w w' : World} {R : Nat → Option Nat} {n : Nat} {its : List It} {gv : Nat}
theorem MpAt.below (h:MpAt W0 E H K M I b G w R n its gv)(hb:Below w.heap.size w w'):MpAt W0 E H K M I b G w' R n its gv:=by
 obtain⟨a,ids,lst,h1,h2⟩:=h;exact⟨a,ids,lst,h1.below hb,h2⟩
theorem MpAt.lts (h:MpAt W0 E H K M I b G w R n its gv):∀q∈G,q<w.heap.size∧W0.heap.size≤q:=by
 obtain⟨a,ids,lst,h1,_⟩:=h;exact h1.facts.1
theorem MpAt.mod {S:List Nat}(h:MpAt W0 E H K M I b G w R n its gv)(hm:Mod S w w')(hS:∀q∈S,q∉G∧W0.heap.size≤q):MpAt W0 E H K M I b G w' R n its gv:=by
 obtain⟨a,ids,lst,h1,h2⟩:=h;exact⟨a,ids,lst,h1.mod hm hS,h2⟩
theorem MpAt.env (h:MpAt W0 E H K M I b G w R n its gv):Env W0 E w:=by
 obtain⟨a,ids,lst,h1,_⟩:=h;exact h1.facts.2.2.2.2.2.2.2.2.2
theorem MpTo.of {a:Pool}{ids:List Nat}{lst:Cnt}(h:RtTo W0 E H K M I b G w w' a ids its gv lst)(hR:fnM a.ents=R)(hn:a.ents.length=n):MpTo W0 E H K M I b G w w' R n its gv:=by
 obtain⟨F,h1,h2,h3⟩:=h;exact⟨F,⟨a,ids,lst,h1,hR,hn⟩,h2,h3⟩
theorem mp_New (H:Nat→Nat)(hE:Env W0 E w)(k m i:Int)(hcf:cfgOk k m i=true)(K M I:Nat)(hkm:(1≤K∧K≤64)∧(1≤M∧M≤192)∧k=(K:Int)∧m=(M:Int)∧i=(I:Int))(hi8:1≤I∧I≤8):Calls Tryz.prog 12 #[cfgV k m i] w fun y w'=>∃b G,y= .returned (.tuple #[.pointer (some ⟨b,0,none⟩),.nilIface])∧MpAt W0 E H K M I b G w' (fun _=>none) 0 [] 0∧(∀q∈G,w.heap.size≤q)∧Below w.heap.size w w':=by
 refine(rt_New H hE k m i hcf K M I hkm hi8).mono ?_;rintro y w' ⟨b,G,rfl,h1,h2,h3⟩;exact⟨b,G,rfl,⟨_,_,_,h1,rfl,rfl⟩,h2,h3⟩
theorem mp_Put (h:MpAt W0 E H K M I b G w R n its gv)(e:Ent)(he:EntOk H e):Calls Tryz.prog 13 #[.pointer (some ⟨b,0,none⟩),.int .u64 (e.key:Int),.int .u64 (e.val:Int),.int .u64 (e.hash:Int)] w fun y w'=>
  y= .returned (errV E (if noRoom M (R e.key) n then 2 else 0))∧MpTo W0 E H K M I b G w w' (putF M R n e.key e.val) (putN M (R e.key) n) its gv:=by
 obtain⟨a,ids,lst,h1,rfl,rfl⟩:=h;refine(rt_Put h1 e he).mono ?_;rintro y w' ⟨rfl,a',ids',lst',hto,hp,_⟩;obtain⟨F,hF,hs,hm⟩:=hto;have h2:=fnM_put h1.facts.2.1 hF.facts.2.1 hp;exact⟨by unfold putC;rw[fullM],F,⟨a',ids',lst',hF,h2.1,h2.2⟩,hs,hm⟩
end
end Go.Proofs.YtchlkhkeonnmdacGreatDoor

/-! A partial function as a row of pairs, rising by keys: looked up, put, taken out. No program in sight. -/
namespace Go.Proofs.YtchlkhkeonnmdacGreatDoor.AmL
set_option maxRecDepth 100000
set_option maxHeartbeats 4000000
open Go.RowKit AmC Go.MapKept
open Go.ChangeMaps (setBlock heap_setBlock_same heap_setBlock_other)
variable {p : Nat × Nat} {k v : Nat}
abbrev PL:=List (Nat×Nat)
def AscP (l:PL):Prop:=l.Pairwise fun a b=>a.1<b.1
def lowP (l:PL)(k:Nat):Nat:=l.countP fun p=>decide (p.1<k)
def isP (l:PL)(k:Nat):Bool:=(l[lowP l k]?).any fun p=>p.1==k
def getP (l:PL)(k:Nat):Option Nat:=(l.find? fun p=>p.1==k).map Prod.snd
def putP (l:PL)(k v:Nat):PL:=if isP l k then l.set (lowP l k) (k,v)else l.take (lowP l k)++(k,v)::l.drop (lowP l k)
def delP (l:PL)(k:Nat):PL:=if isP l k then l.eraseIdx (lowP l k)else l
theorem lowP_le (l:PL)(k:Nat):lowP l k≤l.length:=List.countP_le_length
theorem lowP_lt:∀{l:PL} {k i:Nat} {p:Nat×Nat},AscP l→l[i]?=some p→(i<lowP l k↔p.1<k)
 | [],_,_,_,_,h=>by simp at h
 |x::l,k,i,p,ha,h=>by
  have ha':=List.pairwise_cons.1 ha;unfold lowP;rw[List.countP_cons];by_cases hx:x.1<k
  ·simp only[hx,decide_true,if_true]
   cases i with
   |zero=>obtain rfl:=Option.some.inj h;simp[hx]
   |succ i=>
    have:=lowP_lt (k:=k) (i:=i) ha'.2 h;unfold lowP at this;omega
  ·simp only[hx,decide_false]
   have h0:l.countP (fun p=>decide (p.1<k))=0:=by
    rw[List.countP_eq_zero];intro y hy hd;have h1:=ha'.1 y hy
    have h2:y.1<k:=by simpa using hd
    omega
   rw[h0]
   have hp:x.1≤p.1:=by
    cases i with
    |zero=>obtain rfl:=Option.some.inj h;exact Nat.le_refl _
    |succ i=>exact Nat.le_of_lt (ha'.1 p (List.mem_of_getElem? h))
   simp;omega
theorem asc_at {l:PL}(h:AscP l){i j:Nat}{q:Nat×Nat}(hij:i<j)(hp:l[i]?=some p)(hq:l[j]?=some q):p.1<q.1:=by
 obtain⟨h1,rfl⟩:=List.getElem?_eq_some_iff.1 hp;obtain⟨h2,rfl⟩:=List.getElem?_eq_some_iff.1 hq;exact List.pairwise_iff_getElem.1 h i j h1 h2 hij
theorem asc_of {l:PL}(h:∀(i j:Nat) (p q:Nat×Nat),i<j→l[i]?=some p→l[j]?=some q→p.1<q.1):AscP l:=
 List.pairwise_iff_getElem.2 fun i j h1 h2 hij=>h i j _ _ hij (List.getElem?_eq_getElem h1) (List.getElem?_eq_getElem h2)
theorem getP_mem {l:PL}(ha:AscP l):getP l k=some v↔(k,v)∈l:=by
 unfold getP;constructor
 ·intro h;obtain⟨p,hp,rfl⟩:=Option.map_eq_some_iff.1 h;have h1:=List.find?_some hp;have h2:=List.mem_of_find?_eq_some hp
  have:p.1=k:=by simpa using h1
  rw[←this];exact h2
 ·intro h
  cases hf:l.find? fun p=>p.1==k with
  |none=>
   have:=List.find?_eq_none.1 hf _ h;simp at this
  |some p=>
   have h1:p.1=k:=by simpa using List.find?_some hf
   obtain⟨i,hi⟩:=List.getElem?_of_mem h;obtain⟨j,hj⟩:=List.getElem?_of_mem (List.mem_of_find?_eq_some hf)
   have hij:i=j:=by
    rcases Nat.lt_trichotomy i j with hl|hl|hl
    ·have:=asc_at ha hl hi hj;simp only at this;omega
    ·exact hl
    ·have:=asc_at ha hl hj hi;simp only at this;omega
   subst hij;rw[hi]at hj;obtain rfl:=Option.some.inj hj;rfl
theorem getP_none {l:PL}:getP l k=none↔∀p∈l,p.1≠k:=by
 unfold getP;rw[Option.map_eq_none_iff,List.find?_eq_none];simp
theorem isP_iff {l:PL}(ha:AscP l):isP l k=true↔∃v,l[lowP l k]?=some (k,v)∧getP l k=some v:=by
 unfold isP
 cases h:l[lowP l k]? with
 |none=>simp
 |some p=>
  simp only[Option.any_some];constructor
  ·intro hk
   have hk':p.1=k:=by simpa using hk
   subst hk';exact⟨p.2,rfl,(getP_mem ha).2 (List.mem_of_getElem? h)⟩
  ·rintro⟨v,hv,_⟩;obtain rfl:=Option.some.inj hv;simp
theorem isP_false {l:PL}(ha:AscP l)(h:isP l k=false):getP l k=none:=by
 rw[getP_none];intro p hp he;obtain⟨i,hi⟩:=List.getElem?_of_mem hp;have h1:=lowP_lt (k:=k) ha hi
 have hge:lowP l k≤i:=by omega
 have hlt:lowP l k<l.length:=by have:=(List.getElem?_eq_some_iff.1 hi).1;omega
 obtain⟨q,hq⟩:∃q,l[lowP l k]?=some q:=⟨_,List.getElem?_eq_getElem hlt⟩;have h2:=not_congr (lowP_lt (k:=k) ha hq);rcases Nat.lt_or_eq_of_le hge with hl|hl
 ·have:=asc_at ha hl hq hi;omega
 ·unfold isP at h;rw[hl,hi]at h;simp[he]at h
theorem isP_get {l:PL}(ha:AscP l)(k:Nat):isP l k=(getP l k).isSome:=by
 cases h:isP l k with
 |true=>obtain⟨v,_,h2⟩:=(isP_iff ha).1 h;rw[h2];rfl
 |false=>rw[isP_false ha h];rfl
theorem putP_mem {l:PL}(ha:AscP l):p∈putP l k v↔p=(k,v)∨(p∈l∧p.1≠k):=by
 unfold putP;by_cases hk:isP l k=true
 ·rw[if_pos hk];obtain⟨u,hu,_⟩:=(isP_iff ha).1 hk;obtain⟨hlt,hu'⟩:=List.getElem?_eq_some_iff.1 hu;constructor
  ·intro h;obtain⟨i,hi⟩:=List.getElem?_of_mem h;rw[List.getElem?_set]at hi;by_cases he:lowP l k=i
   ·rw[if_pos he,if_pos hlt]at hi;exact .inl (Option.some.inj hi).symm
   ·rw[if_neg he]at hi;refine .inr ⟨List.mem_of_getElem? hi,fun hke=>he ?_⟩;rcases Nat.lt_trichotomy (lowP l k) i with hl|hl|hl
    ·have:=asc_at ha hl hu hi;simp only at this;omega
    ·exact hl
    ·have:=asc_at ha hl hi hu;simp only at this;omega
  ·rintro(rfl|⟨h,hne⟩)
   ·exact List.mem_of_getElem? (i:=lowP l k) (by rw[List.getElem?_set,if_pos rfl,if_pos hlt])
   ·obtain⟨i,hi⟩:=List.getElem?_of_mem h;refine List.mem_of_getElem? (i:=i) ?_;rw[List.getElem?_set,if_neg,hi];intro he;subst he;rw[hu]at hi;obtain rfl:=Option.some.inj hi;exact hne rfl
 ·rw[if_neg hk];have h0:=getP_none.1 (isP_false ha (by simpa using hk));rw[List.mem_append,List.mem_cons];constructor
  ·rintro(h|h|h)
   ·exact .inr ⟨List.mem_of_mem_take h,h0 p (List.mem_of_mem_take h)⟩
   ·exact .inl h
   ·exact .inr ⟨List.mem_of_mem_drop h,h0 p (List.mem_of_mem_drop h)⟩
  ·rintro(h|⟨h,_⟩)
   ·exact .inr (.inl h)
   ·rw[←List.take_append_drop (lowP l k) l,List.mem_append]at h;rcases h with h|h
    ·exact .inl h
    ·exact .inr (.inr h)
theorem putP_asc {l:PL}(ha:AscP l)(k v:Nat):AscP (putP l k v):=by
 unfold putP;by_cases hk:isP l k=true
 ·rw[if_pos hk];obtain⟨u,hu,_⟩:=(isP_iff ha).1 hk
  have key:∀(i:Nat) (p:Nat×Nat),(l.set (lowP l k) (k,v))[i]?=some p→∃p':Nat×Nat,l[i]?=some p'∧p'.1=p.1:=by
   intro i p hi;rw[List.getElem?_set]at hi;by_cases he:lowP l k=i
   ·rw[if_pos he]at hi;split at hi
    ·obtain rfl:=Option.some.inj hi;exact⟨(k,u),he▸hu,rfl⟩
    ·cases hi
   ·rw[if_neg he]at hi;exact⟨p,hi,rfl⟩
  refine asc_of fun i j p q hij hp hq=> ?_;obtain⟨p',h1,e1⟩:=key i p hp;obtain⟨q',h2,e2⟩:=key j q hq;have:=asc_at ha hij h1 h2;omega
 ·rw[if_neg hk];have h0:=getP_none.1 (isP_false ha (by simpa using hk))
  have hlow:∀p∈l.take (lowP l k),p.1<k:=by
   intro p hp;obtain⟨i,hi⟩:=List.getElem?_of_mem hp;rw[List.getElem?_take]at hi;split at hi
   ·next hlt=>exact(lowP_lt ha hi).1 hlt
   ·cases hi
  have hhigh:∀p∈l.drop (lowP l k),k<p.1:=by
   intro p hp;have hne:=h0 p (List.mem_of_mem_drop hp);obtain⟨i,hi⟩:=List.getElem?_of_mem hp;rw[List.getElem?_drop]at hi;have:=not_congr (lowP_lt (k:=k) ha hi);omega
  unfold AscP;rw[List.pairwise_append,List.pairwise_cons];refine⟨ha.sublist (List.take_sublist _ _),⟨fun p hp=>hhigh p hp,ha.sublist (List.drop_sublist _ _)⟩,fun p hp q hq=> ?_⟩;have h1:=hlow p hp;rcases List.mem_cons.1 hq with rfl|hq
  ·exact h1
  ·have:=hhigh q hq;omega
theorem putP_get {l:PL}(ha:AscP l)(k v k':Nat):getP (putP l k v) k'=if k'=k then some v else getP l k':=by
 have hb:=putP_asc ha k v;by_cases hk:k'=k
 ·subst hk;rw[if_pos rfl];exact(getP_mem hb).2 ((putP_mem ha).2 (.inl rfl))
 ·rw[if_neg hk]
  cases h:getP l k' with
  |some u=>exact(getP_mem hb).2 ((putP_mem ha).2 (.inr ⟨(getP_mem ha).1 h,hk⟩))
  |none=>
   rw[getP_none]at h⊢;intro p hp;rcases(putP_mem ha).1 hp with rfl|⟨h1,_⟩
   ·exact fun e=>hk e.symm
   ·exact h p h1
theorem putP_length {l:PL}(ha:AscP l)(k v:Nat):(putP l k v).length=if(getP l k).isSome then l.length else l.length+1:=by
 rw[←isP_get ha];unfold putP;by_cases hk:isP l k=true
 ·rw[if_pos hk,if_pos hk,List.length_set]
 ·rw[if_neg hk,if_neg hk,List.length_append,List.length_cons,List.length_take,List.length_drop];have:=lowP_le l k;omega
theorem asc_ext:∀{l m:PL},AscP l→AscP m→(∀p,p∈l↔p∈m)→l=m
 | [],[],_,_,_=>rfl
 | [],y::m,_,_,h=>by have:=(h y).2 (by simp);simp at this
 |x::l,[],_,_,h=>by have:=(h x).1 (by simp);simp at this
 |x::l,y::m,hl,hm,h=>by
  have hl':=List.pairwise_cons.1 hl;have hm':=List.pairwise_cons.1 hm
  have hxy:x=y:=by
   rcases List.mem_cons.1 ((h x).1 (by simp))with e|e
   ·exact e
   ·rcases List.mem_cons.1 ((h y).2 (by simp))with e2|e2
    ·exact e2.symm
    ·have:=hm'.1 x e;have:=hl'.1 y e2;omega
  subst hxy;congr 1;refine asc_ext hl'.2 hm'.2 fun p=>⟨fun hp=> ?_,fun hp=> ?_⟩
  ·rcases List.mem_cons.1 ((h p).1 (by simp[hp]))with rfl|e
   ·have:=hl'.1 _ hp;omega
   ·exact e
  ·rcases List.mem_cons.1 ((h p).2 (by simp[hp]))with rfl|e
   ·have:=hm'.1 _ hp;omega
   ·exact e
theorem asc_same {l m:PL}(hl:AscP l)(hm:AscP m)(h:∀k,getP l k=getP m k):l=m:=
 asc_ext hl hm fun p=>by rw[←getP_mem hl (k:=p.1) (v:=p.2),←getP_mem hm (k:=p.1) (v:=p.2),h]
def allP (l:PL):PL:=l.foldl (fun t p=>putP t p.1 p.2) []
theorem allP_snoc (l:PL)(p:Nat×Nat):allP (l++[p])=putP (allP l) p.1 p.2:=by unfold allP;rw[List.foldl_append];rfl
theorem foldP_asc:∀(l t:PL),AscP t→AscP (l.foldl (fun t p=>putP t p.1 p.2) t)
 | [],_,h=>h
 |p::l,_,h=>foldP_asc l _ (putP_asc h p.1 p.2)
theorem allP_asc (l:PL):AscP (allP l):=foldP_asc l [] List.Pairwise.nil
theorem foldP_mem:∀(l t:PL),AscP t→(l.map Prod.fst).Nodup→(∀p∈l,getP t p.1=none)→(∀q,q∈l.foldl (fun t p=>putP t p.1 p.2) t↔q∈t∨q∈l)∧(l.foldl (fun t p=>putP t p.1 p.2) t).length=t.length+l.length
 | [],t,_,_,_=>by simp
 |p::l,t,ht,hn,hd=>by
  rw[List.map_cons,List.nodup_cons]at hn;have hp:=hd p (by simp)
  have ih:=foldP_mem l (putP t p.1 p.2) (putP_asc ht _ _) hn.2 (fun q hq=>by
   rw[putP_get ht,if_neg (fun e:q.1=p.1=>hn.1 (e▸List.mem_map_of_mem hq))]
   exact hd q (by simp[hq]))
  rw[putP_length ht,hp]at ih;refine⟨fun q=> ?_, ?_⟩
  ·rw[List.foldl_cons,ih.1 q,putP_mem ht,List.mem_cons];constructor
   ·rintro((h|h)|h)
    ·exact .inr (.inl h)
    ·exact .inl h.1
    ·exact .inr (.inr h)
   ·rintro(h|h|h)
    ·exact .inl (.inr ⟨h,(getP_none.1 hp) q h⟩)
    ·exact .inl (.inl h)
    ·exact .inr h
  ·rw[List.foldl_cons,ih.2];simp;omega
theorem allP_mem {l:PL}(hn:(l.map Prod.fst).Nodup):(∀q,q∈allP l↔q∈l)∧(allP l).length=l.length:=by
 have:=foldP_mem l [] List.Pairwise.nil hn (fun _ _=>rfl);refine⟨fun q=> ?_, ?_⟩
 ·rw[allP,this.1 q];simp
 ·rw[allP,this.2];simp
theorem allP_perm {l m:PL}(hm:AscP m)(hp:l.Perm m):allP l=m:=by
 have hn:(l.map Prod.fst).Nodup:=by
  rw[(hp.map Prod.fst).nodup_iff,List.Nodup,List.pairwise_map]
  exact hm.imp fun h=>by omega
 exact asc_ext (allP_asc l) hm fun q=>by rw[(allP_mem hn).1 q,hp.mem_iff]
end Go.Proofs.YtchlkhkeonnmdacGreatDoor.AmL

/-! A copy of elements of any size, and what it leaves of a row of the call's own. No program in sight. -/
namespace Go.Proofs.YtchlkhkeonnmdacGreatDoor
set_option maxRecDepth 100000
set_option maxHeartbeats 4000000
open Go.RowKit AmC Go.MapKept
open Go.ChangeMaps (setBlock heap_setBlock_same heap_setBlock_other)
variable {d n o : Nat}
theorem run_copyK {P:Program}(w:World)(dT sT ty elem:TypeId)(sz g o dLen dCap:Nat)(a:Addr)(sLen sCap:Nat)(cur:Array Value)(t:TypeId)(cs:List Value)(hu:P.underlying dT=some (.slice elem))(hs:(P.info? elem).map (·.size)=some sz)(hg:w.heap[g]?=some (.cells cur t (0,0)))(hn:cs.length=Nat.min sLen dLen*sz)(hsrc:∀j v,cs[j]?=some v→w.cell? (a.add j)=some v)(hfit:o+cs.length≤cur.size)(h1:∀v∈cs,v.oneCell'=true):
  (Builtin.copy_ #[dT,sT] ty #[.slice (some ⟨g,o,none⟩) dLen dCap,.slice (some a) sLen sCap]).run P w=
   .ok (goInt (Nat.min sLen dLen)) (w.setRow g (splice cur.toList o cs).toArray):=by
 have hl:=run_loadCells_list (P:=P) w a cs hsrc;have hst:=run_storeCells_at P g o t cs 0 cur w hg (by simpa using hfit) h1
 cases hq:P.info? elem with
 |none=>simp[hq]at hs
 |some i=>
  have hi:i.size=sz:=by simpa[hq]using hs
  simp[Builtin.copy_,run_underlying hu,Builtin.lenOf,Builtin.firstCells,sizeOf,typeInfo,hq,hi,←hn,hl,hst,splice]
section
variable {α : Type} {L cs xs vs : List α}
theorem at_splice (ho:o≤L.length)(j:Nat):(splice L o cs)[j]?=if j<o then L[j]? else if j<o+cs.length then cs[j-o]? else L[j]?:=by
 unfold splice;by_cases h1:j<o
 ·rw[if_pos h1,List.getElem?_append_left (by rw[List.length_take];omega),List.getElem?_take_of_lt h1]
 ·rw[if_neg h1,List.getElem?_append_right (by rw[List.length_take];omega),List.length_take,Nat.min_eq_left ho];by_cases h2:j<o+cs.length
  ·rw[if_pos h2,List.getElem?_append_left (by omega)]
  ·rw[if_neg h2,List.getElem?_append_right (by omega),List.getElem?_drop];congr 1;omega
theorem splice_len (h:o+cs.length≤L.length):(splice L o cs).length=L.length:=length_splice L o cs h
theorem ins_shift (hx:L.take n=xs)(hd:d≤n)(hn:n+vs.length≤L.length):(splice (splice L (d+vs.length) (xs.drop d)) d vs).take (n+vs.length)=xs.take d++(vs++xs.drop d):=by
 have hl:xs.length=n:=by rw[←hx,List.length_take];omega
 have h1:(splice L (d+vs.length) (xs.drop d)).length=L.length:=splice_len (by rw[List.length_drop];omega);apply List.ext_getElem?;intro j;by_cases hj:j<n+vs.length
 ·rw[List.getElem?_take_of_lt hj,at_splice (by omega)];by_cases j1:j<d
  ·rw[if_pos j1,at_splice (by omega),if_pos (by omega),List.getElem?_append_left (by rw[List.length_take];omega),List.getElem?_take_of_lt j1,←hx,List.getElem?_take_of_lt (by omega)]
  ·rw[if_neg j1,List.getElem?_append_right (by rw[List.length_take];omega),List.length_take,Nat.min_eq_left (by omega)];by_cases j2:j<d+vs.length
   ·rw[if_pos j2,List.getElem?_append_left (by omega)]
   ·rw[if_neg j2,at_splice (by omega),if_neg j2,if_pos (by rw[List.length_drop];omega),List.getElem?_append_right (by omega)];congr 1;omega
 ·rw[List.getElem?_eq_none (by rw[List.length_take];omega),List.getElem?_eq_none (by simp;omega)]
theorem ins_grow {Z:List α}(hl:xs.length=n)(hd:d≤n)(hZ:n+vs.length-d≤Z.length):(splice (splice (xs.take d++Z) d vs) (d+vs.length) (xs.drop d)).take (n+vs.length)=xs.take d++(vs++xs.drop d):=by
 have h0:(xs.take d++Z).length=d+Z.length:=by rw[List.length_append,List.length_take];omega
 have h1:(splice (xs.take d++Z) d vs).length=d+Z.length:=by rw[splice_len (by omega),h0]
 apply List.ext_getElem?;intro j;by_cases hj:j<n+vs.length
 ·rw[List.getElem?_take_of_lt hj,at_splice (by omega)];by_cases j1:j<d
  ·rw[if_pos (by omega),at_splice (by omega),if_pos j1,List.getElem?_append_left (by rw[List.length_take];omega),List.getElem?_append_left (by rw[List.length_take];omega)]
  ·rw[List.getElem?_append_right (by rw[List.length_take];omega),List.length_take,Nat.min_eq_left (by omega)];by_cases j2:j<d+vs.length
   ·rw[if_pos j2,at_splice (by omega),if_neg j1,if_pos j2,List.getElem?_append_left (by omega)]
   ·rw[if_neg j2,if_pos (by rw[List.length_drop];omega),List.getElem?_append_right (by omega)];congr 1;omega
 ·rw[List.getElem?_eq_none (by rw[List.length_take];omega),List.getElem?_eq_none (by simp;omega)]
end
theorem own_setRow {w:World}{base g cap sz:Nat}{t:TypeId}{cur cur':Array Value}{xs:List Value}(hg:w.heap[g]?=some (.cells cur t (0,0)))(hb:base≤g)(hc:n≤cap)(hm:cap≤maxLen)(hs:cur'.size=cap*sz)(hx:cur'.toList.take (n*sz)=xs):
  (w.setRow g cur').ownsRow base t sz (.slice (some ⟨g,0,none⟩) n cap) n xs∧Mod [g] w (w.setRow g cur'):=by
 have hlt:g<w.heap.size:=(Array.getElem?_eq_some_iff.1 hg).1;refine⟨⟨?_,.inr ⟨g,cap,cur',rfl,hb,setRow_heap w g cur cur' t (0,0) hg,hc,hm,hs,hx⟩⟩,rfl,rfl,rfl,by simp[World.setRow],fun k hk hne=>setRow_other w g k cur' (fun e=>hne (by simp[e]))⟩;rw[←hx,List.length_take,Array.length_toList,hs];have:=Nat.mul_le_mul_right sz hc;omega
end Go.Proofs.YtchlkhkeonnmdacGreatDoor
