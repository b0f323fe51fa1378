/- A map's Next, and a new map, by their contracts. No statement of the claim. -/
import Derived.Test.YtflbmgpmnocnbaaGreatDoorRmG
import Derived.Test.YtflbmgpmnocnbaaGreatDoorSqT
import Derived.Test.YtflbmgpmnocnbaaGreatDoorLaneP
namespace Go.Proofs.YtflbmgpmnocnbaaGreatDoor
set_option maxRecDepth 100000
set_option maxHeartbeats 4000000
open Go.RowKit AmC AmF
section
variable {its : List It} {I Kk M b cb gv id : Nat} {c : Cur} {W0 : World} {E : Nat → Addr} {H : Nat → Nat} {a : Pool} {ids : List Nat}
theorem itSet_same (hn:(its.map It.id).Nodup)(hi:⟨id,cb,c⟩∈its):itSet its id c=its:=by
 unfold itSet
 conv=>rhs;rw[←List.map_id its]
 apply List.map_congr_left;intro i hi';by_cases h:i.id=id
 ·rw[if_pos h,nodup_map_eq hn hi' hi h];rfl
 ·rw[if_neg h];rfl
theorem next_clo {G0:List Nat}{w0 V:World}{C:RmC}{GC:List Nat}{mb:Nat}{pm pc:Nat}(hS:RtS W0 E H Kk M I b G0 w0 C GC mb gv V a ids its)(hm:Blk V pm 48 #[.pointer (some ⟨b,0,none⟩)])(hc:Blk V pc 132 #[.pointer (some ⟨cb,0,none⟩)])(hi:⟨id,cb,c⟩∈its)(hd:c.done=false)(hok:c.ok):Calls Tryz.prog 67 #[.pointer (some ⟨pm,0,none⟩),.pointer (some ⟨pc,0,none⟩)] V fun y w'=>∃it,y= .returned (.tuple #[itV it,.nilIface])∧Mod (cb::GC) V w'∧StepP W0 E H Kk M I b G0 w0 C GC mb gv a ids its id cb c V it w':=by
 have hsl:=hS.lts;have hW0:=hS.mod.size;have hB:=(Below.refl V.heap.size V).alloc (Nat.le_refl _) (.cells #[.int .i64 0,.int .u64 0,.int .u64 0] 91);have hR:=Blk.new V 91 #[.int .i64 0,.int .u64 0,.int .u64 0];obtain⟨W,hW⟩:∃W,W=V.alloc (.cells #[.int .i64 0,.int .u64 0,.int .u64 0] 91):=⟨_,rfl⟩;rw[←hW]at hB hR;have hst:=rt_step (hS.below hB) hi hd hok;have HSt:=qd hst;have HR:=qd hR;have HW:=qd hW;have HB:=qd hB;have HNf:=qd (show V.heap.size∉rtFoot b C GC mb its from fun hg=>by have:=(hsl _ hg).1;omega)
 have HNc:=qd (show V.heap.size∉cb::GC from fun hg=>by
  rcases List.mem_cons.1 hg with k|k
  ·have:cb<V.heap.size:=(hS.itr.cur _ hi).lt;omega
  ·have:=(hsl _ (mem_rtFoot.2 (.inr (.inr k)))).1;omega)
 have HL:=qd (show V.heap.size<W.heap.size from hR.lt)
 have HCb:=qd (show cb∈itFoot C.ib mb its from by
  unfold itFoot;simp only[List.mem_cons,List.mem_map]
  exact .inr (.inr ⟨_,hi,rfl⟩))
 have HW0:=qd hW0;have x0:=(hm.mod (Mod.of_below hB []) (by simp)).cell 0;have y0:=(hc.mod (Mod.of_below hB []) (by simp)).cell 0;simp only[List.getElem?_toArray,List.getElem?_cons_zero]at x0 y0;clear hst hR hW hB hS hi hd hok hm hc hsl hW0;go_in;go_upto_region 1 with fail;rw[←HW.out];go_wp2_with fail;refine HSt.out.mono ?_;rintro y w1 ⟨it,rfl,hp⟩
 have hmm:Mod (cb::GC) W w1:=by obtain⟨_,_,_,_,_,_,_,_,q⟩:=hp;exact q
 have hr1:=HR.out.mod hmm HNc.out;obtain⟨r0,r1,r2⟩:=hr1.c3;obtain⟨f0,f1,f2⟩:=hr1.f3;have hm5:=(((Mod.refl [V.heap.size] w1).set_ (b:=V.heap.size) (.inl (by simp)) 0 (.int .i64 (it.st:Int))).set_ (b:=V.heap.size) (.inl (by simp)) 1 (.int .u64 (it.key:Int))).set_ (b:=V.heap.size) (.inl (by simp)) 2 (.int .u64 (it.val:Int));obtain⟨c',cc,GC',q1,q2,q3,q4,q5,q6⟩:=hp.mod hm5 (fun q hq=>by rw[List.mem_singleton.1 hq];exact⟨HNf.out,HW0.out,HL.out⟩)
 have hq6:=(Mod.of_below HB.out (cb::GC)).trans q6 (fun q hq _=>hq) (fun q hq hl=>by
  rcases List.mem_cons.1 hq with k|k
  ·rw[k];simp
  ·rcases List.mem_append.1 k with k|k
   ·exact List.mem_cons_of_mem _ k
   ·rw[List.mem_singleton.1 k]at hl;omega)
 have HF:=qd (show∃it2,(Ending.returned (.tuple #[.agg #[.int .i64 (it.st:Int),.int .u64 (it.key:Int),.int .u64 (it.val:Int)],.nilIface]))= .returned (.tuple #[itV it2,.nilIface])∧Mod (cb::GC) V _∧StepP W0 E H Kk M I b G0 w0 C GC mb gv a ids its id cb c V it2 _ from⟨it,rfl,hq6,c',cc,GC',q1,q2,q3,q4,fun q hq=>(q5 q hq).elim .inl (fun k=> .inr (by have:=HL.out;omega)),hq6⟩);clear hmm hr1 hm5 q1 q2 q3 q4 q5 q6 hq6 hp HSt;unfold itV;go_wp2;refine bodyPost_ret (v:= .tuple #[.agg #[.int .i64 (it.st:Int),.int .u64 (it.key:Int),.int .u64 (it.val:Int)],.nilIface]) (by simp[results,Tryz.results67,go_sem,r0,r1,r2]) rfl HF.out
theorem rt_Next {G:List Nat}{w:World}{lst:Cnt}(h:RtAt W0 E H Kk M I b G w a ids its gv lst)(hE6:ErrAt E W0 6)(hi:⟨id,cb,c⟩∈its)(hok:c.ok):Calls Tryz.prog 39 #[.pointer (some ⟨b,0,none⟩),.int .i64 (id:Int)] w fun y w'=>∃it c' lst',y= .returned (.tuple #[itV it,.nilIface])∧NextS a.ents (highs a) c it c'∧LeC lst'∧RtTo W0 E H Kk M I b G w w' a ids (itSet its id c') gv lst':=by
 obtain⟨C,GC,mb,hS,rfl,hlst⟩:=h;obtain⟨W,hW,hB,hBm,hBr⟩:=qX2 w 48 #[.pointer (some ⟨b,0,none⟩)] 91 #[.int .i64 0,.int .u64 0,.int .u64 0];have hlt:=fun q hq=>(hS.lts q hq).1;have HNe:=qd (show∀q,w.heap.size≤q→q∉rtFoot b C GC mb its from fun q hq hg=>by have:=hlt q hg;omega);have HS:=qd (hS.below hB);have HX:=qd hBm;have HR:=qd hBr;have HB:=qd hB;have HW:=qd hW;have HI:=qd hi;have HOk:=qd hok;have HNd:=qd hS.itr.nd;have hbk:=(hS.below hB).blk.blk;unfold RmC.cells at hbk;have c16:=hbk.cell 16;simp only[gl]at c16;have x0:=hBm.cell 0;simp only[List.getElem?_toArray,List.getElem?_cons_zero]at x0;have HAt:=qd (iters_At (hS.below hB).itr hi);have h6:W.cell? ⟨gE 6,0,none⟩=some (.iface 322 (.pointer (some (E 6)))):=(World.cell?_of_block ((hS.below hB).core.facts.2.2.2.2.2.2.2.2.2.2.2.below.block _ (World.block_lt_of_cell? W0 _ hE6))).trans hE6;have H6:=qd h6
 have HSl:=qd (show∀q∈cb::GC,q<w.heap.size from fun q hq=>by
  rcases List.mem_cons.1 hq with k|k
  ·rw[k];exact(hS.itr.cur _ hi).lt
  ·exact hlt q (mem_rtFoot.2 (.inr (.inr k))))
 have HCb:=qd (show cb∈itFoot C.ib mb its from by
  unfold itFoot;simp only[List.mem_cons,List.mem_map]
  exact .inr (.inr ⟨_,hi,rfl⟩))
 clear hbk hW hB hBm hBr hS hi hok hlt hlst h6;go_in;go_upto_region 1 with fail;rw[←HW.out];go_wp2_with fail;refine HAt.out.mono ?_;rintro y w1 ⟨rfl,rfl⟩;clear HAt x0 c16;go_upto_region 2 with fail;refine nameB 132 #[.pointer (some ⟨cb,0,none⟩)] ?_;rintro W1 ⟨hP,hb⟩;have h6:=cell_in hb H6.out;have HP:=qd hP;replace HS:=qd (HS.out.below hb);replace HX:=qB hb HX;replace HR:=qB hb HR;have HB1:=qd (below_nx hb HB.out);obtain⟨pc,hpc⟩:∃pc,pc=W.heap.size:=⟨_,rfl⟩;rw[←hpc]at HP⊢;have HPc:=qd hpc;replace H6:=qd h6;clear hP hb hpc h6;have p0:=HP.out.cell 0;simp only[List.getElem?_toArray,List.getElem?_cons_zero]at p0;have hdn:=cursor_Done (HS.out.itr.cur _ HI.out);have HNr:=qd (show(w.heap.size+1)∉[b]from fun hg=>HNe.out _ (by omega) (mem_rtFoot.2 (.inl (List.mem_singleton.1 hg))));have HNb:=qd HNr.out;have x0:=HX.out.cell 0;simp only[List.getElem?_toArray,List.getElem?_cons_zero]at x0
 cases hd:c.done with
 |true=>
  rw[hd]at hdn;have HDn:=qd hdn;have HCn:=qd (show Calls Tryz.prog 34 #[.pointer (some ⟨b,0,none⟩),.agg #[.int .i64 0,.int .i64 0,.int .i64 0]] W1 _ from rm_count HS.out.blk ⟨0,0,0⟩);have HIs:=qd (fun V=>is_nil (E 6) V);have HDd:=qd hd;clear hdn hd;go_wp2_with fail;refine HDn.out.mono ?_;rintro y w2 ⟨rfl,rfl⟩;clear HDn;go_wp2_with fail;refine HCn.out.mono ?_;rintro y w2 ⟨rfl,hB2,hm2⟩;have hs2:=HS.out.setB hB2 hm2 ⟨rfl,rfl,rfl,rfl,rfl⟩
  have hgb:gE 6∉[b]:=fun hh=>by
   have h1:=World.block_lt_of_cell? W0 _ hE6;have h2:=HS.out.b0.1;rw[List.mem_singleton.1 hh]at h1;exact absurd h1 (by show¬b<W0.heap.size;omega)
  have h6:w2.cell? ⟨gE 6,0,none⟩=some (.iface 322 (.pointer (some (E 6)))):=(World.cell?_of_block (hm2.block _ (World.block_lt_of_cell? W1 _ H6.out) hgb)).trans H6.out;unfold gE at h6;have hr2:=HR.out.mod hm2 HNr.out;obtain⟨r0,r1,r2⟩:=hr2.c3;obtain⟨f0,f1,f2⟩:=hr2.f3;have HS2:=qd hs2;clear hs2 hB2 hm2 hgb hr2 HCn;go_wp2_with fail;refine(HIs.out _).mono ?_;rintro y w3 ⟨rfl,rfl⟩;clear HIs;have hm5:=(((Mod.refl [w.heap.size+1] w2).set_ (b:=w.heap.size+1) (.inl (by simp)) 0 (.int .i64 3)).set_ (b:=w.heap.size+1) (.inl (by simp)) 1 (.int .u64 0)).set_ (b:=w.heap.size+1) (.inl (by simp)) 2 (.int .u64 0);have hs3:=HS2.out.mod_ hm5 (fun q hq=>by rw[List.mem_singleton.1 hq];exact⟨HNe.out _ (by omega),by omega⟩);have hto:=hs3.to;have HF:=qd (show∃it c' lst',(Ending.returned (.tuple #[.agg #[.int .i64 3,.int .u64 0,.int .u64 0],.nilIface]))= .returned (.tuple #[itV it,.nilIface])∧NextS a.ents (highs a) c it c'∧LeC lst'∧RtTo W0 E H Kk M I b (rtFoot b C GC mb its) w _ a ids (itSet its id c') gv lst' from⟨⟨3,0,0⟩,c,⟨0,0,0⟩,rfl,.done HDd.out,⟨by decide,by decide,rfl⟩,by rw[itSet_same HNd.out HI.out];exact hto⟩);clear hm5 hs3 hto h6;go_wp2;refine bodyPost_ret (v:= .tuple #[.agg #[.int .i64 3,.int .u64 0,.int .u64 0],.nilIface]) (by simp[results,Tryz.results39,go_sem,r0,r1,r2]) rfl HF.out
 |false=>
  rw[hd]at hdn;have HDn:=qd hdn;have hmf:∀(fn:Fn) (first cap:Array Value) (w:World),(Instr.makeFunc fn first cap).run Tryz.prog w= .ok (.func fn first cap) w:=fun _ _ _ _=>rfl
  have HTr:=qd (trap_Try (S:=cb::GC) (K:=fun V it w1=>StepP W0 E H Kk M I b (rtFoot b C GC mb its) w C GC mb gv a ids its id cb c V it w1) 67 #[.pointer (some ⟨w.heap.size,0,none⟩),.pointer (some ⟨pc,0,none⟩)] W1 (fun V=>enters_of Tryz.func67 (by kernel_rfl) rfl _ V) (fun q hq=>Nat.lt_of_lt_of_le (HSl.out q hq) HB1.out.size)
   (fun V hbV _=>next_clo (HS.out.below hbV) (HX.out.mod (Mod.of_below hbV []) (by simp)) (HP.out.mod (Mod.of_below hbV []) (by simp)) HI.out hd HOk.out))
  have HXl:=qd (show w.heap.size<W1.heap.size∧w.heap.size+1<W1.heap.size from⟨HX.out.lt,HR.out.lt⟩);clear hdn hd p0;have p0:=HP.out.cell 0;simp only[List.getElem?_toArray,List.getElem?_cons_zero]at p0;go_wp2_with fail;refine HDn.out.mono ?_;rintro y w2 ⟨rfl,rfl⟩;clear HDn;go_wp2_with fail;refine HTr.out.mono ?_;rintro y w3 ⟨V,it,w2,T,rfl,hbV,hmS,hst,hmT,hT⟩;have hxs:∀q,w.heap.size≤q→q<W1.heap.size→q∉cb::GC∧q∉T:=fun q h1 h2=>⟨fun hh=>by have:=HSl.out q hh;omega,fun hh=>by have:=(hT q hh).1;omega⟩;have hX3:=((HX.out.mod (Mod.of_below hbV []) (by simp)).mod hmS (hxs _ (Nat.le_refl _) HXl.out.1).1).mod hmT (hxs _ (Nat.le_refl _) HXl.out.1).2;have hR3:=((HR.out.mod (Mod.of_below hbV []) (by simp)).mod hmS (hxs _ (by omega) HXl.out.2).1).mod hmT (hxs _ (by omega) HXl.out.2).2
  obtain⟨c',cc,GC',q1,q2,q3,q4,q5,q6⟩:=hst.mod hmT (fun q hq=>by
   have:=hT q hq;have:=HB1.out.size
   exact⟨HNe.out q (by omega),by omega,by omega⟩)
  replace HX:=qd hX3;replace HR:=qd hR3;replace HS:=qd q3;have HCt:=qd q4;have HNx:=qd (And.intro q1 q2);have HR4:=qd (show(w.heap.size+1)∉GC' from fun hg=>(q5 _ hg).elim (fun k=>HNe.out _ (by omega) (mem_rtFoot.2 (.inr (.inr k)))) (fun k=>by have:=HXl.out.2;have:=hbV.size;omega));have HFr:=qd (show∀q,w3.heap.size≤q→q≠b from fun q hq e=>by have:=q3.blk.lt;omega);clear hxs hX3 hR3 hst hmT hT hmS hbV q1 q2 q3 q4 q5 q6 HTr p0 x0;unfold itV;go_upto_region 8 with fail;refine nameB 91 #[.int .i64 (it.st:Int),.int .u64 (it.key:Int),.int .u64 (it.val:Int)] ?_;rintro W4 ⟨hO,hb⟩;replace HS:=qd (HS.out.below hb);replace HCt:=qd (HCt.out.below hb);replace HX:=qB hb HX;replace HR:=qB hb HR;have HO:=qd hO;have HNo:=qd (show w3.heap.size∉[b]from fun hh=>HFr.out _ (Nat.le_refl _) (List.mem_singleton.1 hh));obtain⟨ob,hob⟩:∃ob,ob=w3.heap.size:=⟨_,rfl⟩;rw[←hob]at HO HNo⊢;clear hO hb hob;have hcc:=HCt.out;have hbk:=HS.out.blk.blk;unfold RmC.cells at hbk;have c3:=hbk.cell 3;simp only[gl]at c3;have x0:=HX.out.cell 0;simp only[List.getElem?_toArray,List.getElem?_cons_zero]at x0;have HLs:=qd (at_Last (hcc.below (Below.refl W4.heap.size W4).drew));unfold cntV at HLs;clear hbk hcc;refine rT (fun(w':World)=>w'.cell? ⟨w.heap.size,0,none⟩=some (.pointer (some ⟨b,0,none⟩))∧w'.cell? ⟨b,3,none⟩=some (.pointer (some ⟨C.cb,0,none⟩))) [7] ?_;have hHeld:=(⟨x0,c3⟩:_∧_);refine vT 0 rfl ?_;refine nT 1 rfl fun K hK=> ?_;go_simp;refine kO hK ?_;clear hK K;refine vW 2 rfl ?_;refine vW 3 rfl ?_
  refine nT 4 rfl fun K hK=> ?_;go_simp;refine kO hK ?_;clear hK K;refine nT 5 rfl fun K hK=> ?_;go_simp;refine(core_Meter _ _).mono ?_;rintro y V1 ⟨rfl,rfl⟩;go_wp2_with fail;have hHeld:=(⟨x0,c3⟩:_∧_);refine kO hK ?_;clear hK K;refine nT 6 rfl fun K hK=> ?_;go_simp;refine(HLs.out).mono ?_;rintro y V2 ⟨rfl,hb⟩;replace hb:Below W4.heap.size W4 V2:=below_nx hb (Below.refl _ _).drew;replace HS:=qd (HS.out.below hb);replace HR:=qB hb HR;replace HO:=qB hb HO;replace x0:=cell_in hb x0;replace c3:=cell_in hb c3;clear hb HLs;go_wp2_with fail;have hHeld:=(⟨x0,c3⟩:_∧_);refine kO hK ?_;clear hK K;refine nT 7 rfl fun K hK=> ?_;go_simp;have HWr:=qd (show Calls Tryz.prog 34 #[.pointer (some ⟨b,0,none⟩),.agg #[.int .i64 cc.p,.int .i64 cc.v,.int .i64 cc.u]] V2 _ from rm_count HS.out.blk cc);refine(HWr.out).mono ?_;rintro y V3 ⟨rfl,hwr,q3⟩;have HS3:=qd (HS.out.setB hwr q3 ⟨rfl,rfl,rfl,rfl,rfl⟩);replace HR:=qd (HR.out.mod q3 HNb.out);replace HO:=qd (HO.out.mod q3 HNo.out);clear hwr q3 HWr HS x0 c3;go_wp2_with fail;refine kO hK ?_;clear hK K;refine doneT (by kernel_rfl) ?_ _;have o0:=HO.out.cell 0;have o1:=HO.out.cell 1;have o2:=HO.out.cell 2;have r0:=HR.out.cell 0;have r1:=HR.out.cell 1;have r2:=HR.out.cell 2;simp only[gl]at o0 o1 o2 r0 r1 r2;obtain⟨f0,f1,f2⟩:=HR.out.f3
  have hm5:=(((Mod.refl [w.heap.size+1] V3).set_ (b:=w.heap.size+1) (.inl (by simp)) 0 (.int .i64 (it.st:Int))).set_ (b:=w.heap.size+1) (.inl (by simp)) 1 (.int .u64 (it.key:Int))).set_ (b:=w.heap.size+1) (.inl (by simp)) 2 (.int .u64 (it.val:Int))
  have hs3:=HS3.out.mod_ hm5 (fun q hq=>by
   rw[List.mem_singleton.1 hq];refine⟨fun hg=> ?_,by omega⟩;have hR4:=HR4.out;rcases mem_rtFoot.1 hg with k|k|k
   ·exact HNe.out _ (by omega) (mem_rtFoot.2 (.inl k))
   ·rw[itSet_foot]at k;exact HNe.out _ (by omega) (mem_rtFoot.2 (.inr (.inl k)))
   ·exact hR4 k)
  have hto:=hs3.to;have HF:=qd (show∃it2 c' lst',(Ending.returned (.tuple #[.agg #[.int .i64 (it.st:Int),.int .u64 (it.key:Int),.int .u64 (it.val:Int)],.nilIface]))= .returned (.tuple #[itV it2,.nilIface])∧NextS a.ents (highs a) c it2 c'∧LeC lst'∧RtTo W0 E H Kk M I b (rtFoot b C GC mb its) w _ a ids (itSet its id c') gv lst' from⟨it,c',cc,rfl,HNx.out.1,HNx.out.2,hto⟩);clear hm5 hs3 hto;go_wp2;refine bodyPost_ret (v:= .tuple #[.agg #[.int .i64 (it.st:Int),.int .u64 (it.key:Int),.int .u64 (it.val:Int)],.nilIface]) (by simp[results,Tryz.results39,go_sem,r0,r1,r2]) rfl HF.out
end
section
variable {l : List (Nat × Nat)} {W0 w : World} {E : Nat → Addr} {I K M b fb gv n : Nat} {G : List Nat} {its : List It} {R : Nat → Option Nat}
def kv (e:Ent):Nat×Nat:=(e.key,e.val)
structure RawOf (R:Nat→Option Nat)(n:Nat)(l:List (Nat×Nat)):Prop where
 asc:l.Pairwise fun a b=>a.1<b.1
 mem:∀k v,(k,v)∈l↔R k=some v
 len:l.length=n
theorem raw_of {es:List Ent}(hn:(es.map Ent.key).Nodup)(hp:l.Perm (es.map kv))(hs:l.Pairwise fun a b=>a.1≤b.1):RawOf (fnOf es) es.length l:=by
 have hnd:(l.map Prod.fst).Nodup:=by
  rw[(hp.map Prod.fst).nodup_iff,List.map_map];exact hn
 unfold List.Nodup at hnd;rw[List.pairwise_map]at hnd;refine⟨(hs.and hnd).imp fun h=>by have:=h.1;have:=h.2;omega,fun k v=> ?_,by rw[hp.length_eq,List.length_map]⟩;rw[hp.mem_iff,List.mem_map];unfold fnOf;constructor
 ·rintro⟨e,he,hk⟩;obtain⟨rfl,rfl⟩:=Prod.mk.inj hk;rw[look_some hn he];rfl
 ·intro h
  cases hl:look es k with
  |none=>rw[hl]at h;cases h
  |some e=>
   rw[hl]at h;obtain⟨h1,rfl⟩:=look_mem hl;exact⟨e,h1,by rw[←Option.some.inj h];rfl⟩
theorem info_pair:(Tryz.prog.info? 60).map (fun i=>(i.zero,i.size,i.bytes))=some (some (.agg #[.int .u64 0,.int .u64 0]),2,16):=by kernel_rfl
theorem slty_pair:SlTy Tryz.prog 56 60 2 16:=slTy Tryz.underlying56 info_pair rfl (by decide) (by decide)
theorem ents64F {H:Nat→Nat}{Kk:Nat}{a:Pool}{ids:List Nat}{lst:Cnt}(h:RtAt W0 E H Kk M I b G w a ids its gv lst):∀e∈a.ents,e.hash<18446744073709551616∧e.key<18446744073709551616:=fun e he=>by
 obtain⟨C,GC,mb,h1,_⟩:=h;obtain⟨i,N,g1,g2⟩:=mem_pool.1 he;have h3:=((h1.core.facts.2.2.2.2.2.1 i N g1).hash e g2).1;exact⟨h3.h64,h3.k64⟩
theorem own_blk {base t sz:Nat}{v:Value}{xs:List Value}(h:w.ownsRow base t sz v n xs):∀q∈v.ownBlock.toList,base≤q:=fun q hq=>(h.lt q (by simpa using hq)).1
theorem fm_raw (h:FmAt W0 E K M I fb b G w R n [] gv)(hI:1≤I)(hg:gv≤100000)(h6:ErrAt E W0 6):Calls Tryz.prog 21 #[.pointer (some ⟨fb,0,none⟩)] w fun y w'=>∃(v:Value) (l:List (Nat×Nat)) (G':List Nat),y= .returned (.tuple #[v,.nilIface])∧RawOf R n l∧OwnAp w.heap.size w' 60 2 v l.length (l.flatMap pC) G'∧FmAt W0 E K M I fb b G' w' R n [] (gv+1)∧(∀q∈G',q∈G∨w.heap.size≤q)∧Mod G w w':=by
 obtain⟨F0,a,ids,lst0,hB,hR,rfl,hne,h0,hfn,hln⟩:=h;obtain⟨hlts,hnd,hlM,hM,h32,_,_,_,_,hEnv⟩:=hR.facts;have hop:=rt_Open hR (by simp;omega) hg;simp only[List.nil_append]at hop;have HOp:=qd hop;have HNd:=qd hnd;have HE64:=qd (ents64F hR);have HFn:=qd (And.intro hfn (And.intro hln (And.intro h0 hEnv.size)));have H6:=qd h6;have HBd:=qd (show a.ents.length+(highs a).length≤224 from by unfold highs;rw[List.length_map];omega);have c0:=hB.cell 0;simp only[List.getElem?_toArray,List.getElem?_cons_zero]at c0;have HB0:=qd hB;have HNe:=qd hne;have HL0:=qd hB.lt;clear hop hR hlts hnd hlM hM h32 hEnv h0 hfn hln hne hg h6 hB hI;go_in;go_wp2_with fail;refine HOp.out.mono ?_;rintro y w1 ⟨cb,rfl,F1,hA1,hs1,hm1⟩;have HA:=qd hA1;have HB:=qd (HB0.out.mod hm1 HNe.out);have HF:=qd (show fb∉F1∧∀q∈F1,q∈F0∨w.heap.size≤q from⟨fun hf=>(hs1 fb hf).elim HNe.out (fun k=>by have:=HL0.out;omega),hs1⟩);have HM:=qd (show Mod (fb::F0) w w1 from hm1.more (fun q hq=>List.mem_cons_of_mem _ hq));have HO:=qd (OwnAp.nil w1 w.heap.size 60 2 F1);have HW:=qd (Way.start a.ents (highs a));have HP0:=qd (pot_le a.ents (highs a) ⟨0,0,false⟩);clear hA1 hs1 hm1 HOp c0 HB0 HNe;go_wp2
 go_loopg [6] (pot a.ents (highs a) ⟨0,0,false⟩) (fun k v6 wr=>∃(n1:Nat) (F:List Nat) (c:Cur) (lst:Cnt) (out:List Ent),k=pot a.ents (highs a) c∧out.length+k≤224∧Hid (RtAt W0 E fhash K M I b F wr a ids [⟨gv+1,cb,c⟩] (gv+1) lst)∧Hid (Way a.ents (highs a) n1 out c)∧Hid (fb∉F∧∀q∈F,q∈F0∨w.heap.size≤q)∧Hid (Mod (fb::F0) w wr)∧Hid (Blk wr fb 52 #[.pointer (some ⟨b,0,none⟩)])∧Hid (OwnAp w.heap.size wr 60 2 v6 out.length ((out.map kv).flatMap pC) F))
 case atStart=>exact⟨0,F1,_,_,[],rfl,by have:=HP0.out;have:=HBd.out;simp;omega,HA,HW,HF,HM,HB,HO⟩
 case round=>
  clear HA HB HF HM HO HW HP0;obtain⟨n1,F,c,lst,out,hk,hbd,HA,HW,HF,HM,HB,HO⟩:=hrel;have HNx:=rt_Next HA.out H6.out (id:=gv+1) (cb:=cb) (c:=c) (by simp) HW.out.ok;unfold itV at HNx;replace HNx:=qd HNx;obtain⟨A6,c6,hv6⟩:=own_form HO.out.row;subst hv6;have c0:=HB.out.cell 0;simp only[List.getElem?_toArray,List.getElem?_cons_zero]at c0;have HK:=qd (And.intro hk hbd);clear hk hbd;go_wp2_with fail;refine HNx.out.mono ?_;rintro y w5 ⟨it,c',lst',rfl,hns,-,F',hA5,hs5,hm5⟩;obtain⟨out',hw',hor⟩:=HW.out.next HNd.out HE64.out hns;have HPt:=qd (fun hst:it.st≠3=>hns.pot HE64.out hst);have HA5:=qd (show RtAt W0 E fhash K M I b F' w5 a ids [⟨gv+1,cb,c'⟩] (gv+1) lst' from by simpa[itSet]using hA5);have HB5:=qd (HB.out.mod hm5 HF.out.1);have HM5:=qd (HM.out.trans hm5 (fun _ hk _=>hk) (fun q hq hl=>(HF.out.2 q hq).elim (fun k=>List.mem_cons_of_mem _ k) (fun k=>absurd hl (by omega))));have HF5:=qd (show fb∉F'∧∀q∈F',q∈F0∨w.heap.size≤q from⟨fun hf=>(hs5 fb hf).elim HF.out.1 (fun k=>by have:=HB.out.lt;omega),fun q hq=>(hs5 q hq).elim (HF.out.2 q) (fun k=> .inr (by have:=HM.out.size;omega))⟩);have HO5:=qd (HO.out.to hs5 hm5);have HW5:=qd hw';have HOr:=qd hor;obtain⟨st,ky,vl⟩:=it;clear hA5 hs5 hm5 hns hw' hor HNx HA HB HM HF HO c0;go_upto_region 6 with fail;refine nameB 91 #[.int .i64 (st:Int),.int .u64 (ky:Int),.int .u64 (vl:Int)] ?_;rintro w6 ⟨hB6,hb6⟩;obtain⟨bx,hbx⟩:∃bx,bx=w5.heap.size:=⟨_,rfl⟩;rw[←hbx]at hB6⊢;obtain⟨x0,x1,x2⟩:=hB6.c3;have HA6:=qd (HA5.out.below hb6)
  have HB6:=qd (HB5.out.mod (Mod.of_below hb6 []) (by simp));have HM6:=qd (HM5.out.then (Mod.of_below hb6 _));have HO6:=qd (HO5.out.below hb6);clear hB6 hb6 hbx HA5 HB5 HM5 HO5;rcases HOr.out with⟨hst,_,m,_,hout,_,_,hky,hvl,_⟩|⟨hst,hout,_,_,h23,hdn⟩
  ·try simp only at hst hky hvl
   subst hst;subst hky;subst hvl;have HK':=qd (HPt.out (by decide));have HOu:=qd hout
   have hol:out.length<33554432:=by have:=HK.out.2;omega
   have hrow6:=HO6.out.row;have hbs:=HM6.out.size;clear HPt hout HOr;go_upto_region 10 with fail;go_wp2_with (at_builtin;refine wpList_append1 rfl rfl slty_pair hrow6 rfl rfl rfl rfl rfl (by omega) (by omega) ?_;intro v7 w7 ho7 hg7)
   have HO7:=qd (show OwnAp w.heap.size w7 60 2 v7 out'.length ((out'.map kv).flatMap pC) F' from by
    have:=HO6.out.push hg7 (by simpa using ho7) (fun q hq=>(HA6.out.facts.1 q hq).1);rw[HOu.out]
    simpa[pC,kv]using this)
   have hsm:=own_blk hrow6;have hm7:=grow_modP hg7;have HA7:=qd (HA6.out.mod hm7 (fun q hq=>⟨HO6.out.gs q (by simpa using hq),Nat.le_trans HFn.out.2.2.2 (hsm q hq)⟩));have HB7:=qd (HB6.out.mod hm7 (fun hq=>by have:=hsm fb hq;have:=HL0.out;omega));have HM7:=qd (HM6.out.trans hm7 (fun _ hk _=>hk) (fun q hq hl=>absurd (hsm q hq) (by omega)));have HL7:=qd (show out'.length+pot a.ents (highs a) c'≤224 from by have:=HK.out;have:=HK'.out;rw[HOu.out,List.length_append,List.length_singleton];omega);have HP7:=qd (show pot a.ents (highs a) c'<gk from by rw[HK.out.1];exact HK'.out);clear ho7 hg7 hm7 hsm hrow6;go_wp2;go_roundg (pot a.ents (highs a) c')
   case measure=>exact HP7.out
   case rel=>exact⟨n1+1,F',c',lst',out',rfl,HL7.out,HA7,HW5,HF5,HM7,HB7,HO7⟩
  ·try simp only at hst h23 hdn
   subst hout;rcases h23 with rfl|rfl
   ·have HK':=qd (HPt.out (by decide));have HL7:=qd (show out'.length+pot a.ents (highs a) c'≤224 from by have:=HK.out;have:=HK'.out;omega);have HP7:=qd (show pot a.ents (highs a) c'<gk from by rw[HK.out.1];exact HK'.out);clear HPt HOr hdn hst;go_wp2;go_roundg (pot a.ents (highs a) c')
    case measure=>exact HP7.out
    case rel=>exact⟨n1+1,F',c',lst',out',rfl,HL7.out,HA6,HW5,HF5,HM6,HB6,HO6⟩
   ·have HPe:=qd (HW5.out.all_ HNd.out (hdn.1 rfl));have hso:=sort_pairs (l:=out'.map kv) (F:=F') (by rw[List.length_map];exact HO6.out) (by have:=HK.out;rw[List.length_map];omega);have HSo:=qd hso;clear HPt HOr hdn hst hso;go_wp2_with fail;refine HSo.out.mono ?_;rintro y w7 ⟨rfl,l,hp,hs,hO7,hm7⟩;have hsm:=own_blk HO6.out.row;have HRw:=qd (raw_of HNd.out (hp.trans (HPe.out.map kv)) hs);have HO7:=qd hO7;have HA7:=qd (HA6.out.mod hm7 (fun q hq=>⟨HO6.out.gs q (by simpa using hq),Nat.le_trans HFn.out.2.2.2 (hsm q hq)⟩));have HB7:=qd (HB6.out.mod hm7 (fun hq=>by have:=hsm fb hq;have:=HL0.out;omega));have HM7:=qd (HM6.out.trans hm7 (fun _ hk _=>hk) (fun q hq hl=>absurd (hsm q hq) (by have:=HM6.out.size;omega)));have HCl:=qd (rt_Close HA7.out (j:=0) rfl);have c0:=HB7.out.cell 0;simp only[List.getElem?_toArray,List.getElem?_cons_zero]at c0;clear hp hs hO7 hm7 hsm HSo HA6 HB6 HM6 HO6;go_wp2_with fail;refine HCl.out.mono ?_;rintro y w8 ⟨rfl,F8,hA8,hs8,hm8⟩;have HFin:=qd (show FmAt W0 E K M I fb b (fb::F8) w8 R n [] (gv+1)from⟨F8,a,ids,lst',HB7.out.mod hm8 HF5.out.1,hA8,rfl,fun hf=>(hs8 fb hf).elim HF5.out.1 (fun k=>by have:=HB7.out.lt;omega),HFn.out.2.2.1,HFn.out.1,HFn.out.2.1⟩)
    have HS8:=qd (show∀q∈fb::F8,q∈fb::F0∨w.heap.size≤q from fun q hq=>by
     rcases List.mem_cons.1 hq with k|k
     ·exact .inl (by rw[k];simp)
     ·rcases hs8 q k with z|z
      ·exact(HF5.out.2 q z).imp (List.mem_cons_of_mem _) id
      ·exact .inr (by have:=HM7.out.size;omega))
    have HM8:=qd (HM7.out.trans hm8 (fun _ hk _=>hk) (fun q hq hl=>(HF5.out.2 q hq).elim (fun k=>List.mem_cons_of_mem _ k) (fun k=>absurd hl (by omega))))
    have HO8:=qd (show OwnAp w.heap.size w8 60 2 (.slice A6 out'.length c6) l.length (l.flatMap pC) (fb::F8)from by
     have h1:=HO7.out.to hs8 hm8
     exact⟨h1.row,fun g hg hq=>(List.mem_cons.1 hq).elim (fun e=>by have:=(h1.row.lt g hg).1;have:=HL0.out;omega) (h1.gs g hg)⟩)
    have HRo:=qd (show RawOf R n l from by rw[←HFn.out.1,←HFn.out.2.1];exact HRw.out);clear hA8 hs8 hm8 HCl HO7 HB7 HM7 HA7;go_wp2;refine bodyPost_ret (v:= .tuple #[.slice A6 out'.length c6,.nilIface]) (by simp[results,Tryz.results21,go_sem]) rfl ⟨_,l,_,rfl,HRo.out,HO8.out,HFin.out,HS8.out,HM8.out⟩
def kback (k:Nat):Nat:=if k<9223372036854775808 then 18446744073709551615-k else k-9223372036854775808
theorem kback_okey {x:Nat}(hx:x<18446744073709551616):kback (okey x)=formW x:=by
 have h1:=formW_lt hx;have h2:=sgn_lt h1;unfold kback okey;by_cases hs:sgn (formW x)=true
 ·have:=h2.1 hs;rw[if_pos hs,if_pos (by omega)];omega
 ·have:=mt h2.2 hs;rw[if_neg hs,if_neg (by omega)];omega
def fC (p:Nat×Nat):List Value:=[.float .f64 (kback p.1),.float .f64 p.2]
def KeysOk (R:Nat→Option Nat):Prop:=∀k v,R k=some v→∃x,x<18446744073709551616∧k=okey x
theorem info_Pair:(Tryz.prog.info? 38).map (fun i=>(i.zero,i.size,i.bytes))=some (some (.agg #[.float .f64 0,.float .f64 0]),2,16):=by kernel_rfl
theorem slty_Pair:SlTy Tryz.prog 33 38 2 16:=slTy Tryz.underlying33 info_Pair rfl (by decide) (by decide)
theorem flat_take {q:Nat}{p:Nat×Nat}(h:l[q]?=some p):(l.take (q+1)).flatMap fC=(l.take q).flatMap fC++fC p:=by
 rw[List.take_add_one,h,List.flatMap_append];simp
theorem fm_Pairs (h:FmAt W0 E K M I fb b G w R n [] gv)(hI:1≤I)(hg:gv≤100000)(h6:ErrAt E W0 6)(hok:KeysOk R)(hn:n≤192):Calls Tryz.prog 7 #[.pointer (some ⟨fb,0,none⟩)] w fun y w'=>∃(v:Value) (l:List (Nat×Nat)) (G':List Nat),y= .returned (.tuple #[v,.nilIface])∧RawOf R n l∧OwnAp w.heap.size w' 38 2 v l.length (l.flatMap fC) G'∧FmAt W0 E K M I fb b G' w' R n [] (gv+1)∧(∀q∈G',q∈G∨w.heap.size≤q)∧Mod G w w':=by
 have hws:∀q∈G,W0.heap.size≤q:=fun q hq=>(h.lts q hq).2;have hW0:=h.size0;have HRa:=qd (fm_raw h hI hg h6);have HW0:=qd hW0;have HOk:=qd hok;have Hn:=qd hn;clear hws h hI hg h6 hW0 hok hn;go_in;go_wp2_with fail;refine HRa.out.mono ?_;rintro y w1 ⟨v,l,G1,rfl,hrw,ho,hA,hs,hm⟩;have HRw:=qd hrw;have HL:=qd (And.intro ho hA);have HS:=qd hs;have HM:=qd hm;have HO:=qd (OwnAp.nil w1 w.heap.size 38 2 G1);obtain⟨A4,c4,hv4⟩:=own_form ho.row;subst hv4
 have hlen:l.length≤192:=by rw[hrw.len];exact Hn.out
 clear hrw ho hA hs hm HRa;go_wp2;go_loopw [6,8,9,10,21] (fun v6 _ _ _ v21 wr=>∃q:Nat,q≤l.length∧v21= .int .i64 (q:Int)∧Hid (OwnAp w.heap.size wr 60 2 (.slice A4 l.length c4) l.length (l.flatMap pC) G1∧FmAt W0 E K M I fb b G1 wr R n [] (gv+1))∧Hid (Mod G w wr)∧Hid (OwnAp w.heap.size wr 38 2 v6 q ((l.take q).flatMap fC) G1)) (fun _ _ _ _ v21 _=>l.length-(intOf v21).toNat)
 case atStart=>exact⟨0,by omega,rfl,HL,HM,HO⟩
 case round=>
  clear HL HM HO;obtain⟨q,hq,rfl,HL,HM,HO⟩:=hrel;by_cases hlt:q<l.length
  ·have hlt':(q:Int)<(l.length:Int):=by omega
   have hq0:(0:Int)≤(q:Int):=by omega
   have hwq:IntKind.i64.wrap ((q:Int)+1)=((q+1:Nat):Int):=by rw[IntKind.wrap_i64];omega
   obtain⟨x,hx⟩:∃x,l[q]?=some x:=⟨_,List.getElem?_eq_getElem hlt⟩;obtain⟨g,off,hA,hgl,hc⟩:=(Reads.of_own HL.out.1.row).2 (by omega);have r0:wr.cell? ⟨g,off+q*2,none⟩=some (.int .u64 (x.1:Int)):=hc (q*2+0) _ (pC_at hx (by omega));have r1:wr.cell? ⟨g,off+q*2+1,none⟩=some (.int .u64 (x.2:Int)):=hc (q*2+1) _ (pC_at hx (by omega));obtain⟨z,hz,hzk⟩:=HOk.out x.1 x.2 ((HRw.out.mem _ _).1 (List.mem_of_getElem? hx));have hfl:=fun(W:World)=>order_Float z hz W;have hkb:=kback_okey hz;rw[←hzk,←hkb,←hzk]at hfl;have HFl:=qd hfl;have HX:=qd hx;have HJ:=qd (Nat.succ_le_of_lt hlt);have HMe:=qd (show l.length-(intOf (.int .i64 ((q:Int)+1))).toNat<l.length-(intOf (.int .i64 (q:Int))).toNat from by show l.length-((q:Int)+1).toNat<l.length-(q:Int).toNat;omega);obtain⟨A6,c6,hv6⟩:=own_form HO.out.row;subst hA;subst hv6;clear hc hx hfl hkb hzk;go_upto_region 8 with fail;refine nameB 60 #[.int .u64 (x.1:Int),.int .u64 (x.2:Int)] ?_;rintro w6 ⟨hB6,hb6⟩;have HL6:=qd (And.intro (HL.out.1.below hb6) (HL.out.2.below hb6));have HM6:=qd (HM.out.then (Mod.of_below hb6 _));have HO6:=qd (HO.out.below hb6);obtain⟨bx,hbx⟩:∃bx,bx=wr.heap.size:=⟨_,rfl⟩;rw[←hbx]at hB6⊢;obtain⟨x0,x1⟩:=hB6.c2;clear hB6 hb6 hbx HL HM HO r0 r1;go_wp2_with fail;refine(HFl.out _).mono ?_;rintro y wq ⟨rfl,rfl⟩;have hxx:=@run_callFunc_extern Tryz.prog 23 _ Extern.MathFloatBits.float64frombits Tryz.func23 (by kernel_rfl) (by kernel_rfl) (by kernel_rfl) (by kernel_rfl)
   have hff:=fun(n:Int) (W:World)=>show(Extern.MathFloatBits.float64frombits #[.int .u64 n]).run Tryz.prog W= .ok (.float .f64 n.toNat) W from rfl;have hrow6:=HO6.out.row;have hbs:=HM6.out.size;go_upto_region 11 with fail;go_wp2_with (at_builtin;refine wpList_append1 rfl rfl slty_Pair hrow6 rfl rfl rfl rfl rfl (by omega) (by omega) ?_;intro v7 w7 ho7 hg7)
   have HO7:=qd (show OwnAp w.heap.size w7 38 2 v7 (q+1) ((l.take (q+1)).flatMap fC) G1 from by
    have:=HO6.out.push hg7 ho7 (fun q hq=>(HL6.out.2.lts q hq).1);rw[flat_take HX.out]
    exact this)
   have hsm:=own_blk hrow6;have hm7:=grow_modP hg7;have HL7:=qd (show OwnAp w.heap.size w7 60 2 (.slice (some ⟨g,off,none⟩) l.length c4) l.length (l.flatMap pC) G1∧FmAt W0 E K M I fb b G1 w7 R n [] (gv+1)from⟨⟨hg7.keep HL6.out.1.row (own_apart HL6.out.1.row hrow6 (by decide)),HL6.out.1.gs⟩,HL6.out.2.mod hm7 (fun q hq=>⟨HO6.out.gs q (by simpa using hq),Nat.le_trans HW0.out (hsm q hq)⟩)⟩);have HM7:=qd (HM6.out.trans hm7 (fun _ hk _=>hk) (fun q hq hl=>absurd (hsm q hq) (by omega)));clear ho7 hg7 hm7 hsm hrow6 HL6 HM6 HO6;go_wp2;go_roundw
   all_goals first|exact⟨⟨q+1,HJ.out,rfl,HL7,HM7,HO7⟩,HMe.out⟩|exact⟨q+1,HJ.out,rfl,HL7,HM7,HO7⟩|exact HMe.out
  ·obtain rfl:q=l.length:=by omega
   have hlt':¬(l.length:Int)<(l.length:Int):=by omega
   have hO:=HO.out;rw[List.take_of_length_le (Nat.le_refl _)]at hO;have HO6:=qd hO;have HA:=qd HL.out.2;obtain⟨A6,c6,hv6⟩:=own_form hO.row;subst hv6;clear hO hq hlt;go_wp2;refine bodyPost_ret (v:= .tuple #[.slice A6 l.length c6,.nilIface]) (by simp[results,Tryz.results7,go_sem]) rfl (by first|exact⟨_,l,_,rfl,HRw.out,HO6.out,HA.out,HS.out,HM.out⟩|exact⟨_,rfl,l,HRw.out,_,HO6.out,HA.out,HS.out,HM.out⟩)
def leastV (E:Nat→Addr):List (Nat×Nat)→Value
 | []=> .tuple #[.float .f64 0,.iface 322 (.pointer (some (E 12)))]
 |x::_=> .tuple #[.float .f64 (kback x.1),.nilIface]
theorem FmAt.env (h:FmAt W0 E K M I fb b G w R n its gv):Env W0 E w:=by
 obtain⟨F,a,ids,lst,_,h2,_⟩:=h;exact h2.facts.2.2.2.2.2.2.2.2.2
theorem fm_Least (h:FmAt W0 E K M I fb b G w R n [] gv)(hI:1≤I)(hg:gv≤100000)(h6:ErrAt E W0 6)(h12:ErrAt E W0 12)(hok:KeysOk R)(hn:n≤192):Calls Tryz.prog 12 #[.pointer (some ⟨fb,0,none⟩)] w fun y w'=>∃(l:List (Nat×Nat)) (G':List Nat),y= .returned (leastV E l)∧RawOf R n l∧FmAt W0 E K M I fb b G' w' R n [] (gv+1)∧(∀q∈G',q∈G∨w.heap.size≤q)∧Mod G w w':=by
 have HPa:=qd (fm_Pairs h hI hg h6 hok hn);have H12:=qd h12;clear h hI hg h6 hok hn h12;go_in;go_wp2_with fail;refine HPa.out.mono ?_;rintro y w1 ⟨v,l,G1,rfl,hrw,ho,hA,hs,hm⟩;have HF:=qd (And.intro hA (And.intro hs hm));have HRw:=qd hrw;have h12w:ErrAt E w1 12:=H12.out.of_block hA.env.below.block;unfold ErrAt at h12w;simp only[gE]at h12w
 cases l with
 |nil=>
  obtain⟨A,c,rfl⟩:=own_form ho.row;clear hrw ho hA hs hm HPa H12;simp only[List.length_nil];go_upto_region 5 with fail;go_region;go_wp2;refine bodyPost_ret (v:= .tuple #[.float .f64 0,.iface 322 (.pointer (some (E 12)))]) (by simp[results,Tryz.results12,go_sem]) rfl ⟨[],G1,rfl,HRw.out,HF.out.1.below ((Below.refl _ _).drew),HF.out.2.1,HF.out.2.2.then (Mod.of_below ((Below.refl _ _).drew) _)⟩
 |cons x l=>
  obtain⟨A,c,rfl⟩:=own_form ho.row;obtain⟨g,off,hAd,hgl,hc⟩:=(Reads.of_own ho.row).2 (by simp);have r0:=hc 0 (.float .f64 (kback x.1)) rfl;rw[Nat.add_zero]at r0;subst hAd
  have hpos:(0:Int)<((x::l).length:Int):=by rw[List.length_cons];omega
  have hne0:((x::l).length:Int)≠0:=by omega
  obtain⟨N,hN⟩:∃N,N=(x::l).length:=⟨_,rfl⟩;rw[←hN]at hpos hne0⊢;clear hrw ho hA hs hm HPa H12 hc hN h12w;go_wp2;refine bodyPost_ret (v:= .tuple #[.float .f64 (kback x.1),.nilIface]) (by simp[results,Tryz.results12,go_sem]) rfl ⟨x::l,G1,rfl,HRw.out,HF.out⟩
end
end Go.Proofs.YtflbmgpmnocnbaaGreatDoor
