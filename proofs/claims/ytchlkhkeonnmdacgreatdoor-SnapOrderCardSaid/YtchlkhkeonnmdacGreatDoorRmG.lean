/- A map's Next by its contract. No statement of the claim. -/
import Derived.Test.YtchlkhkeonnmdacGreatDoorRmE
import Derived.Test.YtchlkhkeonnmdacGreatDoorSqT
import Derived.Test.YtchlkhkeonnmdacGreatDoorLaneP
import Derived.Test.YtchlkhkeonnmdacGreatDoorRmP
namespace Go.Proofs.YtchlkhkeonnmdacGreatDoor
set_option maxRecDepth 100000
set_option maxHeartbeats 4000000
open Go.RowKit AmC
section
def itV (i:Itm):Value:= .agg #[.int .i64 (i.st:Int),.int .u64 (i.key:Int),.int .u64 (i.val:Int)]
def itSet (its:List It)(id:Nat)(c:Cur):List It:=its.map fun i=>if i.id=id then{i with c:=c} else i
theorem nodup_cb_eq {its:List It}(hn:(its.map It.cb).Nodup){i j:It}(hi:i∈its)(hj:j∈its)(h:i.cb=j.cb):i=j:=by
 induction its with
 |nil=>cases hi
 |cons x l ih=>
  rw[List.map_cons,List.nodup_cons]at hn;rcases List.mem_cons.1 hi with h1|h1
  ·rcases List.mem_cons.1 hj with h2|h2
   ·rw[h1,h2]
   ·exact absurd (show x.cb∈l.map It.cb from by rw[←h1,h];exact List.mem_map_of_mem h2) hn.1
  ·rcases List.mem_cons.1 hj with h2|h2
   ·exact absurd (show x.cb∈l.map It.cb from by rw[←h2,←h];exact List.mem_map_of_mem h1) hn.1
   ·exact ih hn.2 h1 h2
section
variable {w w' : World} {ib mb most given id cb : Nat} {its : List It} {c c' : Cur}
theorem itSet_id:(itSet its id c).map It.id=its.map It.id:=by
 unfold itSet;rw[List.map_map];apply List.map_congr_left;intro i _;simp only[Function.comp_apply]
 split<;>rfl
theorem itSet_cb:(itSet its id c).map It.cb=its.map It.cb:=by
 unfold itSet;rw[List.map_map];apply List.map_congr_left;intro i _;simp only[Function.comp_apply]
 split<;>rfl
theorem itSet_foot:itFoot ib mb (itSet its id c)=itFoot ib mb its:=by unfold itFoot;rw[itSet_cb]
theorem itSet_map:itMap (itSet its id c)=itMap its:=by
 unfold itMap itSet;rw[List.map_map];apply List.map_congr_left;intro i _;simp only[Function.comp_apply]
 split<;>rfl
theorem ItAt.setCur (h:ItAt w ib mb most given its)(hi:⟨id,cb,c⟩∈its)(hc:CurAt w' cb c'){S:List Nat}(hm:Mod S w w')(hS:∀q∈S,q=cb∨q∉itFoot ib mb its):ItAt w' ib mb most given (itSet its id c'):=by
 have hnf:=h.nf;unfold itFoot at hnf;rw[List.nodup_cons,List.nodup_cons]at hnf;have hcbm:cb∈its.map It.cb:=List.mem_map.2 ⟨_,hi,rfl⟩;have h1:ib∉S:=fun hh=>(hS _ hh).elim (fun k=>hnf.1 (by rw[k];exact List.mem_cons_of_mem _ hcbm)) (fun k=>k (by simp[itFoot]));have h2:mb∉S:=fun hh=>(hS _ hh).elim (fun k=>hnf.2.1 (by rw[k];exact hcbm)) (fun k=>k (by simp[itFoot]));refine⟨h.blk.mod hm h1,by rw[itSet_map];exact h.map.mod hm h2,fun i hi'=> ?_,fun i hi'=> ?_,by rw[itSet_id];exact h.nd,by rw[itSet_foot];exact h.nf,h.few.1,by unfold itSet;rw[List.length_map];exact h.few.2⟩
 ·unfold itSet at hi';obtain⟨j,hj,rfl⟩:=List.mem_map.1 hi';by_cases hid:j.id=id
  ·rw[if_pos hid];have:=nodup_map_eq h.nd hj hi hid;rw[this];exact hc
  ·rw[if_neg hid];refine(h.cur j hj).mod hm (fun hh=>hid ?_);have hcb:j.cb=cb:=(hS _ hh).elim (fun k=>k) (fun k=>absurd (by unfold itFoot;simp only[List.mem_cons];exact .inr (.inr (List.mem_map_of_mem hj))) k);have hn:(its.map It.cb).Nodup:=hnf.2.2;exact congrArg It.id (nodup_cb_eq hn hj hi hcb)
 ·have:i.id∈its.map It.id:=by rw[←itSet_id (id:=id) (c:=c')];exact List.mem_map_of_mem hi'
  obtain⟨j,hj,hji⟩:=List.mem_map.1 this;rw[←hji];exact h.ids j hj
end
def StepP (W0:World)(E:Nat→Addr)(H:Nat→Nat)(Kk M I b:Nat)(G0:List Nat)(w0:World)(C:RmC)(GC:List Nat)(mb gv:Nat)(a:Pool)(ids:List Nat)(its:List It)(id cb:Nat)(c:Cur)(V:World)(it:Itm)(w':World):Prop:=
 ∃(c':Cur) (cc:Cnt) (GC':List Nat),NextS a.ents (highs a) c it c'∧LeC cc∧RtS W0 E H Kk M I b G0 w0 C GC' mb gv w' a ids (itSet its id c')∧CoreAtC W0 E H Kk M C.cb GC' w' a ids cc∧(∀q∈GC',q∈GC∨V.heap.size≤q)∧Mod (cb::GC) V w'
section
variable {W0 : World} {E : Nat → Addr} {H : Nat → Nat} {Kk M I b : Nat} {G0 : List Nat} {w0 w : World} {C : RmC} {GC : List Nat} {mb gv : Nat} {a : Pool} {ids : List Nat} {its : List It} {id cb : Nat} {c : Cur}
theorem StepP.mod {T:List Nat}{V w1 w2:World}{it:Itm}(h:StepP W0 E H Kk M I b G0 w0 C GC mb gv a ids its id cb c V it w1)(hm:Mod T w1 w2)(hT:∀q∈T,q∉rtFoot b C GC mb its∧w0.heap.size≤q∧q<V.heap.size):
  ∃(c':Cur) (cc:Cnt) (GC':List Nat),NextS a.ents (highs a) c it c'∧LeC cc∧RtS W0 E H Kk M I b G0 w0 C GC' mb gv w2 a ids (itSet its id c')∧CoreAtC W0 E H Kk M C.cb GC' w2 a ids cc∧(∀q∈GC',q∈GC∨V.heap.size≤q)∧Mod (cb::(GC++T)) V w2:=by
 obtain⟨c',cc,GC',h1,h2,h3,h4,h5,h6⟩:=h
 have h7:∀q∈T,q∉GC':=fun q hq hg=>by
  rcases h5 q hg with k|k
  ·exact(hT q hq).1 (mem_rtFoot.2 (.inr (.inr k)))
  ·have:=(hT q hq).2.2;omega
 refine⟨c',cc,GC',h1,h2,h3.mod_ hm (fun q hq=>⟨fun hg=> ?_,(hT q hq).2.1⟩),h4.mod hm (fun q hq=>⟨h7 q hq,Nat.le_trans h3.le0 (hT q hq).2.1⟩),h5,(h6.more (fun q hq=>by simp at hq⊢;rcases hq with k|k;exact .inl k;exact .inr (.inl k))).then (hm.more (fun q hq=>by simp;exact .inr (.inr hq)))⟩;rcases mem_rtFoot.1 hg with k|k|k
 ·exact(hT q hq).1 (mem_rtFoot.2 (.inl k))
 ·rw[itSet_foot]at k;exact(hT q hq).1 (mem_rtFoot.2 (.inr (.inl k)))
 ·exact h7 q hq k
theorem StepP.of {S:List Nat}{V V1 V2:World}{c':Cur}{cc:Cnt}{GC':List Nat}{it:Itm}(h3:RtS W0 E H Kk M I b G0 w0 C GC' mb gv V1 a ids its)(h4:CoreAtC W0 E H Kk M C.cb GC' V1 a ids cc)(h5:∀q∈GC',q∈GC∨V.heap.size≤q)(h6:Mod GC V V1)(hi:⟨id,cb,c⟩∈its)(h1:NextS a.ents (highs a) c it c')(h2:LeC cc)(hc:CurAt V2 cb c')(hm:Mod S V1 V2)(hS:∀q∈S,q=cb∨(q∉rtFoot b C GC' mb its∧w0.heap.size≤q∧V.heap.size≤q)):StepP W0 E H Kk M I b G0 w0 C GC mb gv a ids its id cb c V it V2:=by
 have hcb:cb∈itFoot C.ib mb its:=by
  unfold itFoot;simp only[List.mem_cons,List.mem_map];exact .inr (.inr ⟨_,hi,rfl⟩)
 refine⟨c',cc,GC',h1,h2,h3.setI (h3.itr.setCur hi hc hm (fun q hq=>(hS q hq).elim .inl (fun k=> .inr (fun g=>k.1 (mem_rtFoot.2 (.inr (.inl g))))))) hm (fun q hq=>(hS q hq).elim (fun k=> .inl (k▸hcb)) (fun k=> .inr ⟨k.1,k.2.1⟩)) (fun q hq=>by rw[itSet_foot]at hq;exact .inl hq),h4.mod hm (fun q hq=> ?_),h5,h6.trans hm (fun q hq _=>List.mem_cons_of_mem _ hq) (fun q hq hl=> ?_)⟩
 ·rcases hS q hq with k|k
  ·rw[k];exact⟨h3.apart.2.2 _ hcb,h3.b0.2 _ hcb⟩
  ·exact⟨fun g=>k.1 (mem_rtFoot.2 (.inr (.inr g))),Nat.le_trans h3.le0 k.2.1⟩
 ·rcases hS q hq with k|k
  ·rw[k];simp
  ·omega
theorem RtS.ents64 (h:RtS W0 E H Kk M I b G0 w0 C GC mb gv w a ids its):∀e∈a.ents,e.hash<18446744073709551616∧e.key<18446744073709551616:=fun e he=>by
 obtain⟨i,N,h1,h2⟩:=mem_pool.1 he;have h3:=((h.core.facts.2.2.2.2.2.1 i N h1).hash e h2).1;exact⟨h3.h64,h3.k64⟩
end
theorem rt_step {W0:World}{E:Nat→Addr}{H:Nat→Nat}{Kk M I b:Nat}{G0:List Nat}{w0 w:World}{C:RmC}{GC:List Nat}{mb gv:Nat}{a:Pool}{ids:List Nat}{its:List It}{id cb:Nat}{c:Cur}(hS:RtS W0 E H Kk M I b G0 w0 C GC mb gv w a ids its)(hi:⟨id,cb,c⟩∈its)(hd:c.done=false)(hok:c.ok):Calls Tryz.prog 51 #[.pointer (some ⟨b,0,none⟩),.pointer (some ⟨cb,0,none⟩)] w fun y w'=>∃it,y= .returned (.tuple #[itV it,.nilIface])∧StepP W0 E H Kk M I b G0 w0 C GC mb gv a ids its id cb c w it w':=by
 have hst:=hS;have hB:=(Below.refl w.heap.size w).alloc (Nat.le_refl _) (.cells #[.int .i64 0,.int .u64 0,.int .u64 0] 64);have hR:=Blk.new w 64 #[.int .i64 0,.int .u64 0,.int .u64 0];obtain⟨W,hW⟩:∃W,W=w.alloc (.cells #[.int .i64 0,.int .u64 0,.int .u64 0] 64):=⟨_,rfl⟩;rw[←hW]at hB hR;have hcu:=(hS.itr.cur _ hi).mod (Mod.of_below hB []) (by simp);have HS:=qd (hS.below hB);have HR:=qd hR;have HB:=qd hB;have HW:=qd hW;have HI:=qd hi;have HCu:=qd hcu;have HEn:=qd hS.ents64;have HD:=qd hd;have HOk:=qd hok;have HNf:=qd (show w.heap.size∉rtFoot b C GC mb its from fun hg=>by have:=(hS.lts _ hg).1;omega);have HW0:=qd (show w0.heap.size≤w.heap.size from hS.mod.size);have HN0:=qd (show w.heap.size∉GC from fun hg=>by have:=(hS.lts _ (mem_rtFoot.2 (.inr (.inr hg)))).1;omega);have HNc:=qd (show w.heap.size≠cb from fun e=>by have:cb<w.heap.size:=(hS.itr.cur _ hi).lt;omega);clear hst hB hR hW hS hcu hi hd hok;go_in;go_upto_region 1 with fail;rw[←HW.out];go_wp2_with fail;refine(cursor_At HCu.out).mono ?_;rintro y W1 ⟨rfl,hb⟩;replace HS:=qd (HS.out.below hb);replace HR:=qB hb HR;replace HB:=qd (below_nx hb HB.out);clear hb HCu;have hbk:=HS.out.blk.blk;unfold RmC.cells at hbk;have c3:=hbk.cell 3;simp only[gl]at c3;have hle:=at_LeastC HS.out.core c.key c.hash HOk.out.1;unfold coreP at hle;have HLe:=qd hle;clear hbk hle;go_wp2_with fail;refine HLe.out.mono ?_;rintro y W2 ⟨o,hg,cc,GC',rfl,hfacts,hcc,hct,hsu,hmo⟩;have hs2:=HS.out.setC' hct.at_ hsu hmo
 have HRn:=qd (show w.heap.size∉GC' from fun hg=>(hsu _ hg).elim HN0.out (fun k=>by have:=HR.out.lt;omega));have HQ:=qd (show Mod GC w W2 from(Mod.of_below HB.out GC).then hmo);replace HR:=qd (HR.out.mod hmo HN0.out);replace HS:=qd hs2;have HCt:=qd hct;have HFa:=qd hfacts;have HCc:=qd hcc;have HSu:=qd (show∀q∈GC',q∈GC∨w.heap.size≤q from fun q hq=>(hsu q hq).elim .inl (fun k=> .inr (by have:=HB.out.size;omega)));have HCb:=qd (show cb<W2.heap.size from(hs2.itr.cur _ HI.out).lt);clear hs2 hct hfacts hcc hsu hmo HLe c3;obtain⟨e0,he0⟩:∃e0:Ent,e0=o.getD ⟨0,0,0⟩:=⟨_,rfl⟩;rw[←he0];have HE0:=qd he0;clear he0;unfold entV;go_upto_region 3 with fail;refine nameB 59 #[.int .u64 (e0.key:Int),.int .u64 (e0.val:Int),.int .u64 (e0.hash:Int)] ?_;rintro W3 ⟨hX,hb⟩;replace HS:=qd (HS.out.below hb);replace HCt:=qd (HCt.out.below hb);replace HR:=qB hb HR;replace HQ:=qd (HQ.out.then (Mod.of_below hb GC));have HX:=qd hX;obtain⟨xb,hxb⟩:∃xb,xb=W2.heap.size:=⟨_,rfl⟩;rw[←hxb]at HX⊢
 have hxr:xb≠cb:=fun e=>by have:=HCb.out;omega
 have HXc:=qd hxr;clear hX hb hxb hxr
 have HRf:=qd (show w.heap.size∉rtFoot b C GC' mb its from fun hg=>by
  rcases mem_rtFoot.1 hg with k|k|k
  ·exact HNf.out (mem_rtFoot.2 (.inl k))
  ·exact HNf.out (mem_rtFoot.2 (.inr (.inl k)))
  ·exact HRn.out k)
 have hxc:xb∉[cb]:=fun hh=>HXc.out (List.mem_singleton.1 hh);have hrc:w.heap.size∉[cb]:=fun hh=>HNc.out (List.mem_singleton.1 hh);have HXm:=qd hxc;have HRm:=qd hrc;clear hxc hrc
 cases o with
 |some m=>
  obtain rfl:e0=m:=HE0.out;have hmm:=HFa.out.2.2.2.2.1;have HMem:=qd (HEn.out e0 (mem_upto.1 hmm).1);have HLs:=qd HFa.out.2.2.2.2.2.1;have HPa:=qd (fun V (hV:CurAt V cb c)=>cursor_Pass hV HD.out e0 HMem.out.2 HMem.out.1 HLs.out);unfold entV at HPa;have HNx:=qd (NextS.yield HD.out hg e0 HFa.out.1 HFa.out.2.2.1 HFa.out.2.1 HFa.out.2.2.2.1 HFa.out.2.2.2.2);clear hmm;go_upto_region 4 with fail;have e0c:=HX.out.cell 0;have e1c:=HX.out.cell 1;have e2c:=HX.out.cell 2;simp only[gl]at e0c e1c e2c;refine rT (fun(w':World)=>w'.cell? ⟨xb,0,none⟩=some (.int .u64 (e0.key:Int))∧w'.cell? ⟨xb,1,none⟩=some (.int .u64 (e0.val:Int))∧w'.cell? ⟨xb,2,none⟩=some (.int .u64 (e0.hash:Int))) [8] ?_;have hHeld:=(⟨e0c,e1c,e2c⟩:_∧_∧_);refine vW 0 rfl ?_;refine vT 1 rfl ?_;refine vW 2 rfl ?_;refine vT 3 rfl ?_;refine vW 4 rfl ?_;refine vW 5 rfl ?_;refine vT 6 rfl ?_;refine nT 7 rfl fun K hK=> ?_;go_simp;refine(HPa.out _ ((HS.out.itr.cur _ HI.out).mod (Mod.of_below (Below.refl W3.heap.size W3).drew []) (by simp))).mono ?_;rintro y W4 ⟨rfl,hc4,hm4⟩;replace hm4:Mod [cb] W3 W4:=(Mod.of_below (Below.refl W3.heap.size W3).drew [cb]).then hm4;replace HR:=qd (HR.out.mod hm4 HRm.out);have HC4:=qd hc4;have HM4:=qd hm4;replace HX:=qd (HX.out.mod hm4 HXm.out);clear hc4 hm4 HPa e0c e1c e2c;have e0c:=HX.out.cell 0;have e1c:=HX.out.cell 1;have e2c:=HX.out.cell 2;simp only[gl]at e0c e1c e2c;go_wp2_with fail;have hHeld:=(⟨e0c,e1c,e2c⟩:_∧_∧_);refine kO hK ?_;clear hK K;refine nT 8 rfl fun K hK=> ?_;have r:=HR.out.c3
  obtain⟨f0,f1,f2⟩:=HR.out.f3;have hnw:=((HR.out.set_ 0 (.int .i64 1)).set_ 1 (.int .u64 (e0.key:Int))).set_ 2 (.int .u64 (e0.val:Int));have hm5:=(((Mod.refl [w.heap.size] W4).set_ (b:=w.heap.size) (.inl (by simp)) 0 (.int .i64 1)).set_ (b:=w.heap.size) (.inl (by simp)) 1 (.int .u64 (e0.key:Int))).set_ (b:=w.heap.size) (.inl (by simp)) 2 (.int .u64 (e0.val:Int));simp only[pt]at hnw;have hmt:Mod [cb,w.heap.size] W3 ((((W4).setCell ⟨w.heap.size,0,none⟩ (.int .i64 1)).setCell ⟨w.heap.size,1,none⟩ (.int .u64 (e0.key:Int))).setCell ⟨w.heap.size,2,none⟩ (.int .u64 (e0.val:Int))):=HM4.out.trans hm5 (fun q hq _=>by simp at hq⊢;exact .inl hq) (fun q hq _=>by simp at hq⊢;exact .inr hq)
  have HF:=qd (StepP.of (V:=w) HS.out HCt.out HSu.out HQ.out HI.out HNx.out HCc.out (HC4.out.mod hm5 (fun hh=>HNc.out (List.mem_singleton.1 hh).symm)) hmt (fun q hq=>by
   rcases List.mem_cons.1 hq with k|k
   ·exact .inl k
   ·rw[List.mem_singleton.1 k];exact .inr ⟨HRf.out,HW0.out,Nat.le_refl _⟩))
  have HNw:=qd hnw;clear hnw hm5 hmt;go_simp;refine kO hK ?_;clear hK K;refine vL 9 rfl ?_;refine doneT (by kernel_rfl) ?_ _;go_wp2;refine bodyPost_ret (v:= .tuple #[.agg #[.int .i64 1,.int .u64 (e0.key:Int),.int .u64 (e0.val:Int)],.nilIface]) (by simp[results,Tryz.results51,go_sem,r.1,r.2.1,r.2.2]) rfl ⟨⟨1,e0.key,e0.val⟩,rfl,HF.out⟩
 |none=>
  have HPa:=qd (cursor_Skip (HS.out.itr.cur _ HI.out) HD.out hg HFa.out.2.1 HFa.out.1);have HNx:=qd (NextS.skip HD.out hg HFa.out.1 HFa.out.2.2.1 HFa.out.2.1 HFa.out.2.2.2.1 HFa.out.2.2.2.2);go_wp2_with fail;refine HPa.out.mono ?_;rintro y W4 ⟨rfl,hc4,hm4⟩;replace HR:=qd (HR.out.mod hm4 HRm.out);have HC4:=qd hc4;have HM4:=qd hm4;have HDn:=qd (cursor_Done hc4);clear hc4 hm4 HPa;by_cases hmx:hg<18446744073709551615
  ·have hdn:(behind hg 18446744073709551615).done=false:=by unfold behind;rw[if_neg (by omega),if_pos hmx]
   rw[hdn]at HDn;rw[if_pos hmx]at HNx;clear hdn;go_wp2_with fail;refine HDn.out.mono ?_;rintro y W5 ⟨rfl,rfl⟩;clear HDn;have r:=HR.out.c3;obtain⟨f0,f1,f2⟩:=HR.out.f3;have hnw:=((HR.out.set_ 0 (.int .i64 2)).set_ 1 (.int .u64 0)).set_ 2 (.int .u64 0);have hm5:=(((Mod.refl [w.heap.size] W4).set_ (b:=w.heap.size) (.inl (by simp)) 0 (.int .i64 2)).set_ (b:=w.heap.size) (.inl (by simp)) 1 (.int .u64 0)).set_ (b:=w.heap.size) (.inl (by simp)) 2 (.int .u64 0);simp only[pt]at hnw;have hmt:Mod [cb,w.heap.size] W3 ((((W4).setCell ⟨w.heap.size,0,none⟩ (.int .i64 2)).setCell ⟨w.heap.size,1,none⟩ (.int .u64 0)).setCell ⟨w.heap.size,2,none⟩ (.int .u64 0)):=HM4.out.trans hm5 (fun q hq _=>by simp at hq⊢;exact .inl hq) (fun q hq _=>by simp at hq⊢;exact .inr hq)
   have HF:=qd (StepP.of (V:=w) HS.out HCt.out HSu.out HQ.out HI.out HNx.out HCc.out (HC4.out.mod hm5 (fun hh=>HNc.out (List.mem_singleton.1 hh).symm)) hmt (fun q hq=>by
    rcases List.mem_cons.1 hq with k|k
    ·exact .inl k
    ·rw[List.mem_singleton.1 k];exact .inr ⟨HRf.out,HW0.out,Nat.le_refl _⟩))
   have HNw:=qd hnw;clear hnw hm5 hmt;go_wp2;refine bodyPost_ret (v:= .tuple #[.agg #[.int .i64 2,.int .u64 0,.int .u64 0],.nilIface]) (by simp[results,Tryz.results51,go_sem,r.1,r.2.1,r.2.2]) rfl ⟨⟨2,0,0⟩,rfl,HF.out⟩
  ·have hdn:(behind hg 18446744073709551615).done=true:=by unfold behind;rw[if_neg (by omega),if_neg hmx]
   rw[hdn]at HDn;rw[if_neg hmx]at HNx;clear hdn;go_wp2_with fail;refine HDn.out.mono ?_;rintro y W5 ⟨rfl,rfl⟩;clear HDn;have r:=HR.out.c3;obtain⟨f0,f1,f2⟩:=HR.out.f3;have hnw:=((HR.out.set_ 0 (.int .i64 3)).set_ 1 (.int .u64 0)).set_ 2 (.int .u64 0);have hm5:=(((Mod.refl [w.heap.size] W4).set_ (b:=w.heap.size) (.inl (by simp)) 0 (.int .i64 3)).set_ (b:=w.heap.size) (.inl (by simp)) 1 (.int .u64 0)).set_ (b:=w.heap.size) (.inl (by simp)) 2 (.int .u64 0);simp only[pt]at hnw;have hmt:Mod [cb,w.heap.size] W3 ((((W4).setCell ⟨w.heap.size,0,none⟩ (.int .i64 3)).setCell ⟨w.heap.size,1,none⟩ (.int .u64 0)).setCell ⟨w.heap.size,2,none⟩ (.int .u64 0)):=HM4.out.trans hm5 (fun q hq _=>by simp at hq⊢;exact .inl hq) (fun q hq _=>by simp at hq⊢;exact .inr hq)
   have HF:=qd (StepP.of (V:=w) HS.out HCt.out HSu.out HQ.out HI.out HNx.out HCc.out (HC4.out.mod hm5 (fun hh=>HNc.out (List.mem_singleton.1 hh).symm)) hmt (fun q hq=>by
    rcases List.mem_cons.1 hq with k|k
    ·exact .inl k
    ·rw[List.mem_singleton.1 k];exact .inr ⟨HRf.out,HW0.out,Nat.le_refl _⟩))
   have HNw:=qd hnw;clear hnw hm5 hmt;go_wp2;refine bodyPost_ret (v:= .tuple #[.agg #[.int .i64 3,.int .u64 0,.int .u64 0],.nilIface]) (by simp[results,Tryz.results51,go_sem,r.1,r.2.1,r.2.2]) rfl ⟨⟨3,0,0⟩,rfl,HF.out⟩
end
theorem eqIn_fnT (d:Nat)(fn:Fn)(a b:Array Value)(w:World):(Op.equalIn (d+1) 111 (.func fn a b) .nilFunc).run Tryz.prog w= .ok false w:=by simp[Op.equalIn,run_underlying Tryz.underlying111]
theorem eq_fnT (fn:Fn)(a b:Array Value)(w:World):(Op.equal 111 (.func fn a b) .nilFunc).run Tryz.prog w= .ok false w:=eqIn_fnT 9999 fn a b w
theorem eqIn_ni (d:Nat)(x:TypeId)(v:Value)(w:World):(Op.equalIn (d+1) 31 .nilIface (.iface x v)).run Tryz.prog w= .ok false w:=by simp[Op.equalIn,run_underlying Tryz.underlying31]
theorem eq_ni (x:TypeId)(v:Value)(w:World):(Op.equal 31 .nilIface (.iface x v)).run Tryz.prog w= .ok false w:=eqIn_ni 9999 x v w
theorem is_nil (a:Addr)(w:World):Calls Tryz.prog 48 #[.nilIface,.iface 323 (.pointer (some a))] w fun e w'=>e= .returned (.bool false)∧w=w':=by
 have hq:∀W:World,(binOp .eql 31 .nilIface (.iface 323 (.pointer (some a)))).run Tryz.prog W= .ok (.bool false) W:=fun W=>by
  simp only[binOp];simp[eq_ni]
 go_in;go_wp2;go_ret;exact⟨rfl,rfl⟩
theorem try_clo {S:List Nat}{K:Itm→World→Prop}(G:FuncId)(cap:Array Value){V:World}{fb ob eb:Nat}(hG:∀W:World,(callFunc G cap).run Tryz.prog W= .ok (.enter G cap) W)(hF:Blk V fb 111 #[.func (.func G) #[] cap])(hO:Blk V ob 64 #[.int .i64 0,.int .u64 0,.int .u64 0])(hE:Blk V eb 31 #[.nilIface])(hN:ob∉S∧eb∉S)(hoe:ob≠eb)
  (hc:Calls Tryz.prog G cap V fun y w1=>∃it,y= .returned (.tuple #[itV it,.nilIface])∧Mod S V w1∧K it w1):
  Calls Tryz.prog 76 #[.pointer (some ⟨fb,0,none⟩),.pointer (some ⟨ob,0,none⟩),.pointer (some ⟨eb,0,none⟩)] V fun y w'=>y= .returned undef∧∃it w1,K it w1∧Mod S V w1∧Mod [ob] w1 w'∧Blk w' ob 64 #[.int .i64 (it.st:Int),.int .u64 (it.key:Int),.int .u64 (it.val:Int)]∧Blk w' eb 31 #[.nilIface]:=by
 have HO:=qd hO;have HE:=qd hE;have HN:=qd hN;have HC:=qd hc;have x0:=hF.cell 0;simp only[List.getElem?_toArray,List.getElem?_cons_zero]at x0;have hgg:=hG;have HOE:=qd hoe;clear hF hO hE hN hc hoe;go_in;go_wp2_with fail;refine HC.out.mono ?_;rintro y w1 ⟨it,rfl,hm,hk⟩;have hO1:=HO.out.mod hm HN.out.1;have hE1:=HE.out.mod hm HN.out.2;have o0:=hO1.cell 0;have o1:=hO1.cell 1;have o2:=hO1.cell 2;have e0:=hE1.cell 0;simp only[gl]at o0 o1 o2 e0;obtain⟨of0,of1,of2⟩:=hO1.f3;have ef0:=hE1.frozen 0;have hid:=hE1.setCell_id (i:=0) (u:= .nilIface) rfl;have hn:=((hO1.set_ 0 (.int .i64 (it.st:Int))).set_ 1 (.int .u64 (it.key:Int))).set_ 2 (.int .u64 (it.val:Int));have hm2:=(((Mod.refl [ob] w1).sl 0 (.int .i64 (it.st:Int))).sl 1 (.int .u64 (it.key:Int))).sl 2 (.int .u64 (it.val:Int));simp only[pt]at hn;have hE2:=hE1.mod hm2 (fun hh=>HOE.out (List.mem_singleton.1 hh).symm);have hid2:=hE2.setCell_id (i:=0) (u:= .nilIface) rfl;have HF:=qd (show∃it w2,K it w2∧Mod S V w2∧Mod [ob] w2 _∧Blk _ ob 64 #[.int .i64 (it.st:Int),.int .u64 (it.key:Int),.int .u64 (it.val:Int)]∧Blk _ eb 31 #[.nilIface]from⟨it,w1,hk,hm,hm2,hn,hE2⟩);have hne1:=HOE.out;have hne2:eb≠ob:=fun e=>hne1 e.symm;clear e0 ef0;have e0:=hE1.cell 0;simp only[gl]at e0;have ef0:=hE1.frozen 0;have HI:=qd hid2;clear hm hk hO1 hE1 hid hn hm2 hE2 hid2;unfold itV;go_wp2;go_end0;rw[HI.out];exact⟨rfl,HF.out⟩
theorem trap_Try {S:List Nat}{K:World→Itm→World→Prop}(G:FuncId)(cap:Array Value)(w:World)(hG:∀W:World,(callFunc G cap).run Tryz.prog W= .ok (.enter G cap) W)(hS:∀q∈S,q<w.heap.size)
  (hc:∀V,Below w.heap.size w V→w.heap.size+5≤V.heap.size→Calls Tryz.prog G cap V fun y w1=>∃it,y= .returned (.tuple #[itV it,.nilIface])∧Mod S V w1∧K V it w1):
  Calls Tryz.prog 49 #[.func (.func G) #[] cap] w fun y w'=>∃V it w1 T,y= .returned (.tuple #[itV it,.nilIface])∧Below w.heap.size w V∧Mod S V w1∧K V it w1∧Mod T w1 w'∧∀q∈T,w.heap.size≤q∧q<V.heap.size:=by
 obtain⟨W,hW,hB,hBf,hBr,hBo,hBn,hBe⟩:=qX5 w 111 #[.func (.func G) #[] cap] 64 #[.int .i64 0,.int .u64 0,.int .u64 0] 64 #[.int .i64 0,.int .u64 0,.int .u64 0] 64 #[.int .i64 0,.int .u64 0,.int .u64 0] 31 #[.nilIface];have hsz:=hB.size;have HW:=qd hW;have HB:=qd hB;have hWl:=hBe.lt;have HBf:=qd hBf;have HBr:=qd hBr;have HBo:=qd hBo;have HBe:=qd hBe;have HS:=qd hS;have HC:=qd hc;clear hW hB hBf hBr hBo hBn hBe hS hc;have hmf:∀(fn:Fn) (first cap:Array Value) (w:World),(Instr.makeFunc fn first cap).run Tryz.prog w= .ok (.func fn first cap) w:=fun _ _ _ _=>rfl
 have hq:∀W:World,(binOp .eql 111 (.func (.func G) #[] cap) .nilFunc).run Tryz.prog W= .ok (.bool false) W:=fun W=>by
  simp only[binOp];simp[eq_fnT]
 have hBc:=(Below.refl W.heap.size W).alloc (Nat.le_refl _) (.cells #[.nilIface] 31);have hbV:Below w.heap.size w (W.alloc (.cells #[.nilIface] 31)):=below_nx hBc HB.out
 have hlV:w.heap.size+5≤(W.alloc (.cells #[.nilIface] 31)).heap.size:=by simp;omega
 have HNS:=qd (show∀q,w.heap.size≤q→q∉S from fun q hq hs=>by have:=HS.out q hs;omega)
 have HCt:=qd (trap_Catch (S:=(w.heap.size+1+1)::S) (K:=fun w'=>∃it w1,K (W.alloc (.cells #[.nilIface] 31)) it w1∧Mod S (W.alloc (.cells #[.nilIface] 31)) w1∧Mod [(w.heap.size+1+1)] w1 w'∧Blk w' (w.heap.size+1+1) 64 #[.int .i64 (it.st:Int),.int .u64 (it.key:Int),.int .u64 (it.val:Int)]∧Blk w' (w.heap.size+1+1+1+1) 31 #[.nilIface]) 76 #[.pointer (some ⟨w.heap.size,0,none⟩),.pointer (some ⟨(w.heap.size+1+1),0,none⟩),.pointer (some ⟨(w.heap.size+1+1+1+1),0,none⟩)] W (fun V=>enters_of Tryz.func76 (by kernel_rfl) rfl _ V)
  (fun hg=>by
   rcases List.mem_cons.1 hg with k|k
   ·omega
   ·exact HNS.out _ (by omega) k)
  ((try_clo G cap hG (HBf.out.mod (Mod.of_below hBc []) (by simp)) (HBo.out.mod (Mod.of_below hBc []) (by simp)) (HBe.out.mod (Mod.of_below hBc []) (by simp)) ⟨HNS.out _ (by omega),HNS.out _ (by omega)⟩ (by omega) (HC.out _ hbV hlV)).mono (fun y w1 hh=>⟨hh.1,(by
   obtain⟨it,w2,k1,k2,k3,_,_⟩:=hh.2
   exact k2.trans k3 (fun q hq _=>List.mem_cons_of_mem _ hq) (fun q hq _=>by rw[List.mem_singleton.1 hq];simp)),hh.2⟩)))
 have HV:=qd (And.intro hbV hlV);have HBc:=qd hBc;have x0:=HBf.out.cell 0;simp only[List.getElem?_toArray,List.getElem?_cons_zero]at x0;clear hBc hbV hlV;go_in;go_upto_region 3 with fail;rw[←HW.out];go_wp2_with fail;refine HCt.out.mono ?_;rintro y w1 ⟨rfl,hm1,it,w2,hk,hm2,hm3,ho,he⟩
 have hr1:=(HBr.out.mod (Mod.of_below HBc.out []) (by simp)).mod hm1 (fun hg=>by
  rcases List.mem_cons.1 hg with k|k
  ·omega
  ·exact HNS.out _ (by omega) k)
 have r0:=hr1.cell 0;have r1:=hr1.cell 1;have r2:=hr1.cell 2;have o0:=ho.cell 0;have o1:=ho.cell 1;have o2:=ho.cell 2;have e0:=he.cell 0;simp only[gl]at r0 r1 r2 o0 o1 o2 e0;obtain⟨f0,f1,f2⟩:=hr1.f3;have hm5:=(((Mod.refl [(w.heap.size+1)] w1).sl 0 (.int .i64 (it.st:Int))).sl 1 (.int .u64 (it.key:Int))).sl 2 (.int .u64 (it.val:Int));have hmt:=hm3.trans hm5 (U:=[(w.heap.size+1),(w.heap.size+1+1)]) (fun q hq _=>by simp at hq⊢;exact .inr hq) (fun q hq _=>by simp at hq⊢;exact .inl hq)
 have HF:=qd (show∃V it2 w1 T,(Ending.returned (.tuple #[.agg #[.int .i64 (it.st:Int),.int .u64 (it.key:Int),.int .u64 (it.val:Int)],.nilIface]))= .returned (.tuple #[itV it2,.nilIface])∧Below w.heap.size w V∧Mod S V w1∧K V it2 w1∧Mod T w1 _∧∀q∈T,w.heap.size≤q∧q<V.heap.size from⟨_,it,w2,_,rfl,HV.out.1,hm2,hk,hmt,fun q hq=>by
  have:=HV.out.2;simp at hq
  rcases hq with k|k<;>omega⟩)
 clear hm1 hk hm2 hm3 ho he hr1 hm5 hmt HCt;go_wp2;refine bodyPost_ret (v:= .tuple #[.agg #[.int .i64 (it.st:Int),.int .u64 (it.key:Int),.int .u64 (it.val:Int)],.nilIface]) (by simp[results,Tryz.results49,go_sem,r0,r1,r2]) rfl HF.out
end Go.Proofs.YtchlkhkeonnmdacGreatDoor
