/- A map's Next, and a new map, by their contracts. No statement of the claim. -/
import Derived.Test.YtchlkhkeonnmdacGreatDoorRmG
import Derived.Test.YtchlkhkeonnmdacGreatDoorSqT
import Derived.Test.YtchlkhkeonnmdacGreatDoorLaneP
import Derived.Test.YtchlkhkeonnmdacGreatDoorRmP
import Derived.Test.YtchlkhkeonnmdacGreatDoorPlC
import Derived.Deep.LoopGhost
namespace Go.Proofs.YtchlkhkeonnmdacGreatDoor
set_option maxRecDepth 100000
set_option maxHeartbeats 4000000
open Go.RowKit AmC AmL
section
variable {its : List It} {I Kk M b cb gv id : Nat} {c : Cur} {W0 : World} {E : Nat → Addr} {H : Nat → Nat} {a : Pool} {ids : List Nat}
theorem itSet_same (hn:(its.map It.id).Nodup)(hi:⟨id,cb,c⟩∈its):itSet its id c=its:=by
 unfold itSet
 conv=>rhs;rw[←List.map_id its]
 apply List.map_congr_left;intro i hi';by_cases h:i.id=id
 ·rw[if_pos h,nodup_map_eq hn hi' hi h];rfl
 ·rw[if_neg h];rfl
theorem next_clo {G0:List Nat}{w0 V:World}{C:RmC}{GC:List Nat}{mb:Nat}{pm pc:Nat}(hS:RtS W0 E H Kk M I b G0 w0 C GC mb gv V a ids its)(hm:Blk V pm 34 #[.pointer (some ⟨b,0,none⟩)])(hc:Blk V pc 105 #[.pointer (some ⟨cb,0,none⟩)])(hi:⟨id,cb,c⟩∈its)(hd:c.done=false)(hok:c.ok):Calls Tryz.prog 50 #[.pointer (some ⟨pm,0,none⟩),.pointer (some ⟨pc,0,none⟩)] V fun y w'=>∃it,y= .returned (.tuple #[itV it,.nilIface])∧Mod (cb::GC) V w'∧StepP W0 E H Kk M I b G0 w0 C GC mb gv a ids its id cb c V it w':=by
 have hsl:=hS.lts;have hW0:=hS.mod.size;have hB:=(Below.refl V.heap.size V).alloc (Nat.le_refl _) (.cells #[.int .i64 0,.int .u64 0,.int .u64 0] 64);have hR:=Blk.new V 64 #[.int .i64 0,.int .u64 0,.int .u64 0];obtain⟨W,hW⟩:∃W,W=V.alloc (.cells #[.int .i64 0,.int .u64 0,.int .u64 0] 64):=⟨_,rfl⟩;rw[←hW]at hB hR;have hst:=rt_step (hS.below hB) hi hd hok;have HSt:=qd hst;have HR:=qd hR;have HW:=qd hW;have HB:=qd hB;have HNf:=qd (show V.heap.size∉rtFoot b C GC mb its from fun hg=>by have:=(hsl _ hg).1;omega)
 have HNc:=qd (show V.heap.size∉cb::GC from fun hg=>by
  rcases List.mem_cons.1 hg with k|k
  ·have:cb<V.heap.size:=(hS.itr.cur _ hi).lt;omega
  ·have:=(hsl _ (mem_rtFoot.2 (.inr (.inr k)))).1;omega)
 have HL:=qd (show V.heap.size<W.heap.size from hR.lt)
 have HCb:=qd (show cb∈itFoot C.ib mb its from by
  unfold itFoot;simp only[List.mem_cons,List.mem_map]
  exact .inr (.inr ⟨_,hi,rfl⟩))
 have HW0:=qd hW0;have x0:=(hm.mod (Mod.of_below hB []) (by simp)).cell 0;have y0:=(hc.mod (Mod.of_below hB []) (by simp)).cell 0;simp only[List.getElem?_toArray,List.getElem?_cons_zero]at x0 y0;clear hst hR hW hB hS hi hd hok hm hc hsl hW0;go_in;go_upto_region 1 with fail;rw[←HW.out];go_wp2_with fail;refine HSt.out.mono ?_;rintro y w1 ⟨it,rfl,hp⟩
 have hmm:Mod (cb::GC) W w1:=by obtain⟨_,_,_,_,_,_,_,_,q⟩:=hp;exact q
 have hr1:=HR.out.mod hmm HNc.out;obtain⟨r0,r1,r2⟩:=hr1.c3;obtain⟨f0,f1,f2⟩:=hr1.f3;have hm5:=(((Mod.refl [V.heap.size] w1).set_ (b:=V.heap.size) (.inl (by simp)) 0 (.int .i64 (it.st:Int))).set_ (b:=V.heap.size) (.inl (by simp)) 1 (.int .u64 (it.key:Int))).set_ (b:=V.heap.size) (.inl (by simp)) 2 (.int .u64 (it.val:Int));obtain⟨c',cc,GC',q1,q2,q3,q4,q5,q6⟩:=hp.mod hm5 (fun q hq=>by rw[List.mem_singleton.1 hq];exact⟨HNf.out,HW0.out,HL.out⟩)
 have hq6:=(Mod.of_below HB.out (cb::GC)).trans q6 (fun q hq _=>hq) (fun q hq hl=>by
  rcases List.mem_cons.1 hq with k|k
  ·rw[k];simp
  ·rcases List.mem_append.1 k with k|k
   ·exact List.mem_cons_of_mem _ k
   ·rw[List.mem_singleton.1 k]at hl;omega)
 have HF:=qd (show∃it2,(Ending.returned (.tuple #[.agg #[.int .i64 (it.st:Int),.int .u64 (it.key:Int),.int .u64 (it.val:Int)],.nilIface]))= .returned (.tuple #[itV it2,.nilIface])∧Mod (cb::GC) V _∧StepP W0 E H Kk M I b G0 w0 C GC mb gv a ids its id cb c V it2 _ from⟨it,rfl,hq6,c',cc,GC',q1,q2,q3,q4,fun q hq=>(q5 q hq).elim .inl (fun k=> .inr (by have:=HL.out;omega)),hq6⟩);clear hmm hr1 hm5 q1 q2 q3 q4 q5 q6 hq6 hp HSt;unfold itV;go_wp2;refine bodyPost_ret (v:= .tuple #[.agg #[.int .i64 (it.st:Int),.int .u64 (it.key:Int),.int .u64 (it.val:Int)],.nilIface]) (by simp[results,Tryz.results50,go_sem,r0,r1,r2]) rfl HF.out
theorem rt_Next {G:List Nat}{w:World}{lst:Cnt}(h:RtAt W0 E H Kk M I b G w a ids its gv lst)(hE6:ErrAt E W0 6)(hi:⟨id,cb,c⟩∈its)(hok:c.ok):Calls Tryz.prog 22 #[.pointer (some ⟨b,0,none⟩),.int .i64 (id:Int)] w fun y w'=>∃it c' lst',y= .returned (.tuple #[itV it,.nilIface])∧NextS a.ents (highs a) c it c'∧LeC lst'∧RtTo W0 E H Kk M I b G w w' a ids (itSet its id c') gv lst':=by
 obtain⟨C,GC,mb,hS,rfl,hlst⟩:=h;obtain⟨W,hW,hB,hBm,hBr⟩:=qX2 w 34 #[.pointer (some ⟨b,0,none⟩)] 64 #[.int .i64 0,.int .u64 0,.int .u64 0];have hlt:=fun q hq=>(hS.lts q hq).1;have HNe:=qd (show∀q,w.heap.size≤q→q∉rtFoot b C GC mb its from fun q hq hg=>by have:=hlt q hg;omega);have HS:=qd (hS.below hB);have HX:=qd hBm;have HR:=qd hBr;have HB:=qd hB;have HW:=qd hW;have HI:=qd hi;have HOk:=qd hok;have HNd:=qd hS.itr.nd;have hbk:=(hS.below hB).blk.blk;unfold RmC.cells at hbk;have c16:=hbk.cell 16;simp only[gl]at c16;have x0:=hBm.cell 0;simp only[List.getElem?_toArray,List.getElem?_cons_zero]at x0;have HAt:=qd (iters_At (hS.below hB).itr hi);have h6:W.cell? ⟨gE 6,0,none⟩=some (.iface 323 (.pointer (some (E 6)))):=(World.cell?_of_block ((hS.below hB).core.facts.2.2.2.2.2.2.2.2.2.2.2.below.block _ (World.block_lt_of_cell? W0 _ hE6))).trans hE6;have H6:=qd h6
 have HSl:=qd (show∀q∈cb::GC,q<w.heap.size from fun q hq=>by
  rcases List.mem_cons.1 hq with k|k
  ·rw[k];exact(hS.itr.cur _ hi).lt
  ·exact hlt q (mem_rtFoot.2 (.inr (.inr k))))
 have HCb:=qd (show cb∈itFoot C.ib mb its from by
  unfold itFoot;simp only[List.mem_cons,List.mem_map]
  exact .inr (.inr ⟨_,hi,rfl⟩))
 clear hbk hW hB hBm hBr hS hi hok hlt hlst h6;go_in;go_upto_region 1 with fail;rw[←HW.out];go_wp2_with fail;refine HAt.out.mono ?_;rintro y w1 ⟨rfl,rfl⟩;clear HAt x0 c16;go_upto_region 2 with fail;refine nameB 105 #[.pointer (some ⟨cb,0,none⟩)] ?_;rintro W1 ⟨hP,hb⟩;have h6:=cell_in hb H6.out;have HP:=qd hP;replace HS:=qd (HS.out.below hb);replace HX:=qB hb HX;replace HR:=qB hb HR;have HB1:=qd (below_nx hb HB.out);obtain⟨pc,hpc⟩:∃pc,pc=W.heap.size:=⟨_,rfl⟩;rw[←hpc]at HP⊢;have HPc:=qd hpc;replace H6:=qd h6;clear hP hb hpc h6;have p0:=HP.out.cell 0;simp only[List.getElem?_toArray,List.getElem?_cons_zero]at p0;have hdn:=cursor_Done (HS.out.itr.cur _ HI.out);have HNr:=qd (show(w.heap.size+1)∉[b]from fun hg=>HNe.out _ (by omega) (mem_rtFoot.2 (.inl (List.mem_singleton.1 hg))));have HNb:=qd HNr.out;have x0:=HX.out.cell 0;simp only[List.getElem?_toArray,List.getElem?_cons_zero]at x0
 cases hd:c.done with
 |true=>
  rw[hd]at hdn;have HDn:=qd hdn;have HCn:=qd (show Calls Tryz.prog 30 #[.pointer (some ⟨b,0,none⟩),.agg #[.int .i64 0,.int .i64 0,.int .i64 0]] W1 _ from rm_count HS.out.blk ⟨0,0,0⟩);have HIs:=qd (fun V=>is_nil (E 6) V);have HDd:=qd hd;clear hdn hd;go_wp2_with fail;refine HDn.out.mono ?_;rintro y w2 ⟨rfl,rfl⟩;clear HDn;go_wp2_with fail;refine HCn.out.mono ?_;rintro y w2 ⟨rfl,hB2,hm2⟩;have hs2:=HS.out.setB hB2 hm2 ⟨rfl,rfl,rfl,rfl,rfl⟩
  have hgb:gE 6∉[b]:=fun hh=>by
   have h1:=World.block_lt_of_cell? W0 _ hE6;have h2:=HS.out.b0.1;rw[List.mem_singleton.1 hh]at h1;exact absurd h1 (by show¬b<W0.heap.size;omega)
  have h6:w2.cell? ⟨gE 6,0,none⟩=some (.iface 323 (.pointer (some (E 6)))):=(World.cell?_of_block (hm2.block _ (World.block_lt_of_cell? W1 _ H6.out) hgb)).trans H6.out;unfold gE at h6;have hr2:=HR.out.mod hm2 HNr.out;obtain⟨r0,r1,r2⟩:=hr2.c3;obtain⟨f0,f1,f2⟩:=hr2.f3;have HS2:=qd hs2;clear hs2 hB2 hm2 hgb hr2 HCn;go_wp2_with fail;refine(HIs.out _).mono ?_;rintro y w3 ⟨rfl,rfl⟩;clear HIs;have hm5:=(((Mod.refl [w.heap.size+1] w2).set_ (b:=w.heap.size+1) (.inl (by simp)) 0 (.int .i64 3)).set_ (b:=w.heap.size+1) (.inl (by simp)) 1 (.int .u64 0)).set_ (b:=w.heap.size+1) (.inl (by simp)) 2 (.int .u64 0);have hs3:=HS2.out.mod_ hm5 (fun q hq=>by rw[List.mem_singleton.1 hq];exact⟨HNe.out _ (by omega),by omega⟩);have hto:=hs3.to;have HF:=qd (show∃it c' lst',(Ending.returned (.tuple #[.agg #[.int .i64 3,.int .u64 0,.int .u64 0],.nilIface]))= .returned (.tuple #[itV it,.nilIface])∧NextS a.ents (highs a) c it c'∧LeC lst'∧RtTo W0 E H Kk M I b (rtFoot b C GC mb its) w _ a ids (itSet its id c') gv lst' from⟨⟨3,0,0⟩,c,⟨0,0,0⟩,rfl,.done HDd.out,⟨by decide,by decide,rfl⟩,by rw[itSet_same HNd.out HI.out];exact hto⟩);clear hm5 hs3 hto h6;go_wp2;refine bodyPost_ret (v:= .tuple #[.agg #[.int .i64 3,.int .u64 0,.int .u64 0],.nilIface]) (by simp[results,Tryz.results22,go_sem,r0,r1,r2]) rfl HF.out
 |false=>
  rw[hd]at hdn;have HDn:=qd hdn;have hmf:∀(fn:Fn) (first cap:Array Value) (w:World),(Instr.makeFunc fn first cap).run Tryz.prog w= .ok (.func fn first cap) w:=fun _ _ _ _=>rfl
  have HTr:=qd (trap_Try (S:=cb::GC) (K:=fun V it w1=>StepP W0 E H Kk M I b (rtFoot b C GC mb its) w C GC mb gv a ids its id cb c V it w1) 50 #[.pointer (some ⟨w.heap.size,0,none⟩),.pointer (some ⟨pc,0,none⟩)] W1 (fun V=>enters_of Tryz.func50 (by kernel_rfl) rfl _ V) (fun q hq=>Nat.lt_of_lt_of_le (HSl.out q hq) HB1.out.size)
   (fun V hbV _=>next_clo (HS.out.below hbV) (HX.out.mod (Mod.of_below hbV []) (by simp)) (HP.out.mod (Mod.of_below hbV []) (by simp)) HI.out hd HOk.out))
  have HXl:=qd (show w.heap.size<W1.heap.size∧w.heap.size+1<W1.heap.size from⟨HX.out.lt,HR.out.lt⟩);clear hdn hd p0;have p0:=HP.out.cell 0;simp only[List.getElem?_toArray,List.getElem?_cons_zero]at p0;go_wp2_with fail;refine HDn.out.mono ?_;rintro y w2 ⟨rfl,rfl⟩;clear HDn;go_wp2_with fail;refine HTr.out.mono ?_;rintro y w3 ⟨V,it,w2,T,rfl,hbV,hmS,hst,hmT,hT⟩;have hxs:∀q,w.heap.size≤q→q<W1.heap.size→q∉cb::GC∧q∉T:=fun q h1 h2=>⟨fun hh=>by have:=HSl.out q hh;omega,fun hh=>by have:=(hT q hh).1;omega⟩;have hX3:=((HX.out.mod (Mod.of_below hbV []) (by simp)).mod hmS (hxs _ (Nat.le_refl _) HXl.out.1).1).mod hmT (hxs _ (Nat.le_refl _) HXl.out.1).2;have hR3:=((HR.out.mod (Mod.of_below hbV []) (by simp)).mod hmS (hxs _ (by omega) HXl.out.2).1).mod hmT (hxs _ (by omega) HXl.out.2).2
  obtain⟨c',cc,GC',q1,q2,q3,q4,q5,q6⟩:=hst.mod hmT (fun q hq=>by
   have:=hT q hq;have:=HB1.out.size
   exact⟨HNe.out q (by omega),by omega,by omega⟩)
  replace HX:=qd hX3;replace HR:=qd hR3;replace HS:=qd q3;have HCt:=qd q4;have HNx:=qd (And.intro q1 q2);have HR4:=qd (show(w.heap.size+1)∉GC' from fun hg=>(q5 _ hg).elim (fun k=>HNe.out _ (by omega) (mem_rtFoot.2 (.inr (.inr k)))) (fun k=>by have:=HXl.out.2;have:=hbV.size;omega));have HFr:=qd (show∀q,w3.heap.size≤q→q≠b from fun q hq e=>by have:=q3.blk.lt;omega);clear hxs hX3 hR3 hst hmT hT hmS hbV q1 q2 q3 q4 q5 q6 HTr p0 x0;unfold itV;go_upto_region 8 with fail;refine nameB 64 #[.int .i64 (it.st:Int),.int .u64 (it.key:Int),.int .u64 (it.val:Int)] ?_;rintro W4 ⟨hO,hb⟩;replace HS:=qd (HS.out.below hb);replace HCt:=qd (HCt.out.below hb);replace HX:=qB hb HX;replace HR:=qB hb HR;have HO:=qd hO;have HNo:=qd (show w3.heap.size∉[b]from fun hh=>HFr.out _ (Nat.le_refl _) (List.mem_singleton.1 hh));obtain⟨ob,hob⟩:∃ob,ob=w3.heap.size:=⟨_,rfl⟩;rw[←hob]at HO HNo⊢;clear hO hb hob;have hcc:=HCt.out;have hbk:=HS.out.blk.blk;unfold RmC.cells at hbk;have c3:=hbk.cell 3;simp only[gl]at c3;have x0:=HX.out.cell 0;simp only[List.getElem?_toArray,List.getElem?_cons_zero]at x0;have HLs:=qd (at_Last (hcc.below (Below.refl W4.heap.size W4).drew));unfold cntV at HLs;clear hbk hcc;refine rT (fun(w':World)=>w'.cell? ⟨w.heap.size,0,none⟩=some (.pointer (some ⟨b,0,none⟩))∧w'.cell? ⟨b,3,none⟩=some (.pointer (some ⟨C.cb,0,none⟩))) [7] ?_;have hHeld:=(⟨x0,c3⟩:_∧_);refine vT 0 rfl ?_;refine nT 1 rfl fun K hK=> ?_;go_simp;refine kO hK ?_;clear hK K;refine vW 2 rfl ?_;refine vW 3 rfl ?_
  refine nT 4 rfl fun K hK=> ?_;go_simp;refine kO hK ?_;clear hK K;refine nT 5 rfl fun K hK=> ?_;go_simp;refine(core_Meter _ _).mono ?_;rintro y V1 ⟨rfl,rfl⟩;go_wp2_with fail;have hHeld:=(⟨x0,c3⟩:_∧_);refine kO hK ?_;clear hK K;refine nT 6 rfl fun K hK=> ?_;go_simp;refine(HLs.out).mono ?_;rintro y V2 ⟨rfl,hb⟩;replace hb:Below W4.heap.size W4 V2:=below_nx hb (Below.refl _ _).drew;replace HS:=qd (HS.out.below hb);replace HR:=qB hb HR;replace HO:=qB hb HO;replace x0:=cell_in hb x0;replace c3:=cell_in hb c3;clear hb HLs;go_wp2_with fail;have hHeld:=(⟨x0,c3⟩:_∧_);refine kO hK ?_;clear hK K;refine nT 7 rfl fun K hK=> ?_;go_simp;have HWr:=qd (show Calls Tryz.prog 30 #[.pointer (some ⟨b,0,none⟩),.agg #[.int .i64 cc.p,.int .i64 cc.v,.int .i64 cc.u]] V2 _ from rm_count HS.out.blk cc);refine(HWr.out).mono ?_;rintro y V3 ⟨rfl,hwr,q3⟩;have HS3:=qd (HS.out.setB hwr q3 ⟨rfl,rfl,rfl,rfl,rfl⟩);replace HR:=qd (HR.out.mod q3 HNb.out);replace HO:=qd (HO.out.mod q3 HNo.out);clear hwr q3 HWr HS x0 c3;go_wp2_with fail;refine kO hK ?_;clear hK K;refine doneT (by kernel_rfl) ?_ _;have o0:=HO.out.cell 0;have o1:=HO.out.cell 1;have o2:=HO.out.cell 2;have r0:=HR.out.cell 0;have r1:=HR.out.cell 1;have r2:=HR.out.cell 2;simp only[gl]at o0 o1 o2 r0 r1 r2;obtain⟨f0,f1,f2⟩:=HR.out.f3
  have hm5:=(((Mod.refl [w.heap.size+1] V3).set_ (b:=w.heap.size+1) (.inl (by simp)) 0 (.int .i64 (it.st:Int))).set_ (b:=w.heap.size+1) (.inl (by simp)) 1 (.int .u64 (it.key:Int))).set_ (b:=w.heap.size+1) (.inl (by simp)) 2 (.int .u64 (it.val:Int))
  have hs3:=HS3.out.mod_ hm5 (fun q hq=>by
   rw[List.mem_singleton.1 hq];refine⟨fun hg=> ?_,by omega⟩;have hR4:=HR4.out;rcases mem_rtFoot.1 hg with k|k|k
   ·exact HNe.out _ (by omega) (mem_rtFoot.2 (.inl k))
   ·rw[itSet_foot]at k;exact HNe.out _ (by omega) (mem_rtFoot.2 (.inr (.inl k)))
   ·exact hR4 k)
  have hto:=hs3.to;have HF:=qd (show∃it2 c' lst',(Ending.returned (.tuple #[.agg #[.int .i64 (it.st:Int),.int .u64 (it.key:Int),.int .u64 (it.val:Int)],.nilIface]))= .returned (.tuple #[itV it2,.nilIface])∧NextS a.ents (highs a) c it2 c'∧LeC lst'∧RtTo W0 E H Kk M I b (rtFoot b C GC mb its) w _ a ids (itSet its id c') gv lst' from⟨it,c',cc,rfl,HNx.out.1,HNx.out.2,hto⟩);clear hm5 hs3 hto;go_wp2;refine bodyPost_ret (v:= .tuple #[.agg #[.int .i64 (it.st:Int),.int .u64 (it.key:Int),.int .u64 (it.val:Int)],.nilIface]) (by simp[results,Tryz.results22,go_sem,r0,r1,r2]) rfl HF.out
end
section
theorem behind_passed {m:Ent}{h k:Nat}(hm:m.hash<h∨(m.hash=h∧m.key≤k)):(behind h k).passed m:=by
 unfold behind Cur.passed;split
 ·right;simp[lessE];omega
 ·split
  ·right;simp[lessE];omega
  ·left;rfl
section
variable {es : List Ent} {hs : List Nat} {c c' : Cur} {i : Itm}
theorem NextS.keeps (h:NextS es hs c i c'){e:Ent}(he:e.hash<18446744073709551616∧e.key<18446744073709551616)(hp:c.passed e):c'.passed e:=by
 cases h with
 |done=>exact hp
 |yield hd hi m h1 h2 h3 h4 hm=>
  have hp2:lessE e ⟨c.key,0,c.hash⟩=true:=hp.resolve_left (by rw[hd];simp);have hn:=hm.2.1;refine behind_passed ?_;simp[lessE]at hp2 hn;omega
 |skip hd hi h1 h2 h3 h4 hm=>
  have hp2:lessE e ⟨c.key,0,c.hash⟩=true:=hp.resolve_left (by rw[hd];simp);refine behind_passed ?_;simp[lessE]at hp2;omega
theorem NextS.tells (h:NextS es hs c i c'):(i.st=1∧c.done=false∧∃m∈es,i.key=m.key∧i.val=m.val∧¬c.passed m∧c'.passed m)∨((i.st=2∨i.st=3)∧i.key=0∧i.val=0∧(i.st=3↔c'.done=true)∧(c.done=true→i.st=3)):=by
 cases h with
 |done hd=>exact .inr ⟨.inr rfl,rfl,rfl,by simp[hd],fun _=>rfl⟩
 |yield hd hi m h1 h2 h3 h4 hm=>
  refine .inl ⟨rfl,hd,m,(mem_upto.1 hm.1).1,rfl,rfl,fun hp=> ?_,behind_passed (.inr ⟨rfl,Nat.le_refl _⟩)⟩;have:=hp.resolve_left (by rw[hd];simp);rw[hm.2.1]at this;cases this
 |skip hd hi h1 h2 h3 h4 hm=>
  refine .inr ⟨by simp only;split<;>simp,rfl,rfl, ?_,fun h=>by rw[hd]at h;cases h⟩;unfold behind
  by_cases hlt:hi<18446744073709551615<;>simp[hlt]
instance (c:Cur)(e:Ent):Decidable (c.passed e):=by unfold Cur.passed;infer_instance
def pot (es:List Ent)(hs:List Nat)(c:Cur):Nat:=if c.done=true then 0 else(es.filter fun e=> !decide (c.passed e)).length+(hs.filter fun h=>decide (c.hash≤h)).length
theorem pot_le (es:List Ent)(hs:List Nat)(c:Cur):pot es hs c≤es.length+hs.length:=by
 unfold pot;split
 ·exact Nat.zero_le _
 ·exact Nat.add_le_add (List.length_filter_le _ _) (List.length_filter_le _ _)
theorem filter_le {α:Type}{p q:α→Bool}:∀{l:List α},(∀x∈l,p x=true→q x=true)→(l.filter p).length≤(l.filter q).length
 | [],_=>Nat.le_refl _
 |x::l,h=>by
  have ih:=filter_le (l:=l) fun y hy=>h y (by simp[hy]);rw[List.filter_cons,List.filter_cons];have hx:=h x (by simp);split
  ·rename_i hp;rw[if_pos (hx hp)];simp;exact ih
  ·split
   ·simp;omega
   ·exact ih
theorem filter_lt {α:Type}{p q:α→Bool}:∀{l:List α},(∀x∈l,p x=true→q x=true)→(∃x∈l,q x=true∧p x=false)→(l.filter p).length<(l.filter q).length
 | [],_,h=>by obtain⟨_,h,_⟩:=h;cases h
 |x::l,h,hx=>by
  have hle:=filter_le (l:=l) fun y hy=>h y (by simp[hy]);rw[List.filter_cons,List.filter_cons];obtain⟨y,hy,h1,h2⟩:=hx;rcases List.mem_cons.1 hy with e|hy
  ·subst e;rw[if_neg (by rw[h2];simp),if_pos h1];simp;omega
  ·have hlt:=filter_lt (l:=l) (fun z hz=>h z (by simp[hz])) ⟨y,hy,h1,h2⟩;have hq:=h x (by simp);split
   ·rename_i hp;rw[if_pos (hq hp)];simp;exact hlt
   ·split
    ·simp;omega
    ·exact hlt
theorem NextS.pot (h:NextS es hs c i c')(hes:∀e∈es,e.hash<18446744073709551616∧e.key<18446744073709551616)(hne:i.st≠3):pot es hs c'<pot es hs c:=by
 have hk:=fun(e:Ent) (he:e∈es) (hp:c.passed e)=>h.keeps (hes e he) hp;rcases h.tells with⟨_,hd,m,h2,_,_,h3,h4⟩|⟨hst,_,_,h3,h4⟩
 ·have hm1:1≤(es.filter fun e=> !decide (c.passed e)).length:=by
   have:m∈es.filter fun e=> !decide (c.passed e):=List.mem_filter.2 ⟨h2,by simp[h3]⟩;exact List.length_pos_of_mem this
  unfold Go.Proofs.YtchlkhkeonnmdacGreatDoor.pot;rw[if_neg (show¬c.done=true by rw[hd];simp)];by_cases hd':c'.done=true
  ·rw[if_pos hd'];omega
  ·rw[if_neg hd']
   have e1:=filter_lt (l:=es) (p:=fun e=> !decide (c'.passed e)) (q:=fun e=> !decide (c.passed e)) (fun e he hp=>by
    simp at hp⊢;exact fun hq=>hp (hk e he hq)) ⟨m,h2,by simp[h3],by simp[h4]⟩
   have e2:(hs.filter fun h=>decide (c'.hash≤h)).length≤(hs.filter fun h=>decide (c.hash≤h)).length:=filter_le fun x _ hx=>by
    simp at hx⊢
    cases h with
    |yield hd hi m' g1 g2 g3 g4 hm=>
     have hn:=hm.2.1;simp[lessE]at hn
     have:m'.hash≤(behind m'.hash m'.key).hash:=by
      unfold behind;split
      ·exact Nat.le_refl _
      ·split
       ·exact Nat.le_succ _
       ·rename_i a b;exact absurd (by unfold behind;rw[if_neg a,if_neg b]) hd'
     omega
    |done hd2=>rw[hd]at hd2;cases hd2
    |skip hd2 x g1 g2 g3=>
     have:x≤(behind x 18446744073709551615).hash:=by
      unfold behind;rw[if_neg (by omega)];split
      ·exact Nat.le_succ _
      ·rename_i b;exact absurd (by unfold behind;rw[if_neg (by omega),if_neg b]) hd'
     omega
   omega
 ·have hd:c.done=false:=by
   cases hd:c.done with
   |false=>rfl
   |true=>exact absurd (h4 hd) hne
  have hd':¬c'.done=true:=fun e=>hne (h3.2 e);unfold Go.Proofs.YtchlkhkeonnmdacGreatDoor.pot;rw[if_neg (show¬c.done=true by rw[hd];simp),if_neg hd']
  have e1:(es.filter fun e=> !decide (c'.passed e)).length≤(es.filter fun e=> !decide (c.passed e)).length:=filter_le fun e he hp=>by
   simp at hp⊢;exact fun hq=>hp (hk e he hq)
  have e2:(hs.filter fun h=>decide (c'.hash≤h)).length<(hs.filter fun h=>decide (c.hash≤h)).length:=by
   cases h with
   |done hd2=>rw[hd]at hd2;cases hd2
   |yield hd2 x m g1 g2 g3 g4 hm=>
    rcases hst with k|k<;>cases k
   |skip hd2 x g1 g2 g3 g4 hm=>
    have hx:x<18446744073709551615:=by
     by_cases hlt:x<18446744073709551615
     ·exact hlt
     ·exact absurd (by unfold behind;rw[if_neg (by omega),if_neg hlt]) hd'
    have hb:(behind x 18446744073709551615).hash=x+1:=by
     unfold behind;rw[if_neg (by omega),if_pos hx]
    rw[hb];exact filter_lt (fun y _ hy=>by simp at hy⊢;omega) ⟨x,g2,by simpa using g1,by simp⟩
  omega
end
end
section
variable {es out : List Ent} {G hs : List Nat} {b' n sz : Nat} {c : Cur} {t : TypeId} {v : Value} {xs : List Value}
def kvE (e:Ent):Nat×Nat:=(e.key,e.val)
theorem keys_nodup (hn:(es.map Ent.key).Nodup)(ho:out.Nodup)(hs:∀e∈out,e∈es):((out.map kvE).map Prod.fst).Nodup:=by
 rw[List.map_map];show(out.map Ent.key).Nodup;unfold List.Nodup;rw[List.pairwise_map];exact ho.imp_of_mem fun h1 h2 hne hk=>hne (keys_apart hn _ (hs _ h1) _ (hs _ h2) hk)
theorem way_len (h:Way es hs n out c):out.length≤es.length:=sub_nodup h.asc.nodup fun e he=>((h.mem e).1 he).1
theorem way_keys (hn:(es.map Ent.key).Nodup)(h:Way es hs n out c):((out.map kvE).map Prod.fst).Nodup:=keys_nodup hn h.asc.nodup fun e he=>((h.mem e).1 he).1
theorem way_room {m:Ent}(hn:(es.map Ent.key).Nodup)(h:Way es hs n (out++[m]) c):(allP (out.map kvE)).length<es.length∧isP (allP (out.map kvE)) m.key=false:=by
 have h1:=way_len h;have h2:=way_keys hn h;rw[List.map_append,List.map_append,List.nodup_append]at h2;have h3:=allP_mem h2.1;rw[List.length_append,List.length_singleton]at h1;refine⟨by rw[h3.2,List.length_map];omega, ?_⟩;rw[isP_get (allP_asc _)]
 cases hg:getP (allP (out.map kvE)) m.key with
 |none=>rfl
 |some v=>
  have h4:=(h3.1 _).1 ((getP_mem (allP_asc _)).1 hg);exact absurd rfl (h2.2.2 m.key (List.mem_map_of_mem (f:=Prod.fst) h4) m.key (by simp[kvE]))
theorem way_end (hn:(es.map Ent.key).Nodup)(h:Way es hs n out c)(hd:c.done=true):(∀k,getP (allP (out.map kvE)) k=fnM es k)∧(allP (out.map kvE)).length=es.length:=by
 have h1:=h.all_ hn hd;have h3:=allP_mem (way_keys hn h);refine⟨fun k=> ?_,by rw[h3.2,List.length_map,h1.length_eq]⟩;unfold fnM
 cases hl:look es k with
 |none=>
  rw[Option.map_none,getP_none];intro p hp hk;obtain⟨e,he,rfl⟩:=List.mem_map.1 ((h3.1 p).1 hp);have:=look_some hn (h1.mem_iff.1 he);rw[show e.key=k from hk,hl]at this;cases this
 |some e=>
  obtain⟨he,rfl⟩:=look_mem hl;exact(getP_mem (allP_asc _)).2 ((h3.1 _).2 (List.mem_map.2 ⟨e,h1.mem_iff.2 he,rfl⟩))
theorem ents64M {W0:World}{E:Nat→Addr}{H:Nat→Nat}{Kk M I b:Nat}{w:World}{a:Pool}{ids:List Nat}{its:List It}{gv:Nat}{lst:Cnt}(h:RtAt W0 E H Kk M I b G w a ids its gv lst):∀e∈a.ents,e.hash<18446744073709551616∧e.key<18446744073709551616:=fun e he=>by
 obtain⟨C,GC,mb,h1,_⟩:=h;obtain⟨i,N,g1,g2⟩:=mem_pool.1 he;have h3:=((h1.core.facts.2.2.2.2.2.1 i N g1).hash e g2).1;exact⟨h3.h64,h3.k64⟩
theorem own_farK {w w':World}{S:List Nat}{base:Nat}(h:w.ownsRow base t sz v n xs)(hm:Mod S w w')(hS:∀q∈v.ownBlock.toList,q∉S):w'.ownsRow base t sz v n xs:=by
 refine⟨h.1, ?_⟩;rcases h.2 with k|⟨g,cap,cur,rfl,k2,k3,k4⟩
 ·exact .inl k
 ·refine .inr ⟨g,cap,cur,rfl,k2, ?_,k4⟩;rw[hm.block g (Array.getElem?_eq_some_iff.1 k3).1 (hS g (by simp[Value.ownBlock]))];exact k3
theorem own_lowK {w:World}{b:Nat}(h:w.ownsRow b t sz v n xs)(hb:b'≤b):w.ownsRow b' t sz v n xs:=
 ⟨h.1,h.2.imp id fun⟨g,cap,cur,h1,h2,h3⟩=>⟨g,cap,cur,h1,Nat.le_trans hb h2,h3⟩⟩
theorem pl_base {b fb most:Nat}{w:World}{F:List Nat}{l:PL}(h:PlF b w fb most F l)(hb:b'≤b):PlF b' w fb most F l:=by
 obtain⟨v,h1,h2,h3,h4,h5⟩:=h;exact⟨v,h1,own_lowK h2 hb,h3,Nat.le_trans hb h4,h5⟩
structure Two (W0:World)(E:Nat→Addr)(H:Nat→Nat)(K M I b:Nat)(w0 w:World)(G0 F:List Nat)(a:Pool)(ids:List Nat)(its:List It)(gv:Nat)(lst:Cnt)(fb most:Nat)(F2:List Nat)(l:PL):Prop where
 map:RtAt W0 E H K M I b F w a ids its gv lst
 fn:PlF w0.heap.size w fb most F2 l
 apart:∀q∈F2,q∉F
 from_:∀q∈F,q∈G0∨w0.heap.size≤q
 mod:Mod G0 w0 w
 base:W0.heap.size≤w0.heap.size
section
variable {W0 : World} {E : Nat → Addr} {H : Nat → Nat} {K M I b : Nat} {w0 w w' : World} {G0 F F2 : List Nat} {a a' : Pool} {ids ids' : List Nat} {its its' : List It} {gv gv' : Nat} {lst lst' : Cnt} {fb most : Nat} {l l' : PL}
theorem Two.step (h:Two W0 E H K M I b w0 w G0 F a ids its gv lst fb most F2 l)(hr:RtTo W0 E H K M I b F w w' a' ids' its' gv' lst'):∃F',Two W0 E H K M I b w0 w' G0 F' a' ids' its' gv' lst' fb most F2 l:=by
 obtain⟨F',h1,h2,h3⟩:=hr;have hsz:=h.mod.size;refine⟨F',h1,h.fn.mod h3 fun q hq hf=>h.apart q hf hq,fun q hq hf=> ?_,fun q hq=> ?_,h.mod.trans h3 (fun _ hk _=>hk) (fun q hq hl=>(h.from_ q hq).elim id fun k=>absurd hl (by omega)),h.base⟩
 ·rcases h2 q hf with k|k
  ·exact h.apart q hq k
  ·have:=(h.fn.lts q hq).1;omega
 ·rcases h2 q hq with k|k
  ·exact h.from_ q k
  ·exact .inr (by omega)
theorem Two.put (h:Two W0 E H K M I b w0 w G0 F a ids its gv lst fb most F2 l)(hr:PlTo w0.heap.size w w' fb most F2 l'):∃F',Two W0 E H K M I b w0 w' G0 F a ids its gv lst fb most F' l':=by
 obtain⟨F',h1,h2,h3⟩:=hr;have hsz:=h.mod.size;refine⟨F',h.map.mod h3 (fun q hq=>⟨h.apart q hq,Nat.le_trans h.base (h.fn.lts q hq).2⟩),h1,fun q hq hf=> ?_,h.from_,h.mod.trans h3 (fun _ hk _=>hk) (fun q hq hl=>absurd (h.fn.lts q hq).2 (by omega)),h.base⟩;rcases h2 q hq with k|k
 ·exact h.apart q k hf
 ·have:=(h.map.facts.1 q hf).1;omega
theorem Two.below (h:Two W0 E H K M I b w0 w G0 F a ids its gv lst fb most F2 l)(hb:Below w.heap.size w w'):Two W0 E H K M I b w0 w' G0 F a ids its gv lst fb most F2 l:=
 ⟨h.map.below hb,h.fn.below hb,h.apart,h.from_,h.mod.then (Mod.of_below hb _),h.base⟩
end
theorem mp_Take {W0:World}{E:Nat→Addr}{H:Nat→Nat}{K M I b:Nat}{w:World}{R:Nat→Option Nat}{gv:Nat}(h:MpAt W0 E H K M I b G w R n [] gv)(hI:1≤I)(hg:gv≤100000)(h6:ErrAt E W0 6):
  Calls Tryz.prog 9 #[.pointer (some ⟨b,0,none⟩)] w fun y w'=>∃v l G',y= .returned (.tuple #[v,.nilIface])∧AscP l∧(∀k,getP l k=R k)∧w'.ownsRow w.heap.size 29 2 v l.length (l.flatMap pairC)∧(∀q∈v.ownBlock.toList,q∉G')∧MpAt W0 E H K M I b G' w' R n [] (gv+1)∧(∀q∈G',q∈G∨w.heap.size≤q)∧Mod G w w':=by
 obtain⟨a,ids,lst0,hR,rfl,rfl⟩:=h;obtain⟨hlts,hnd,hlM,hM,h32,_,_,_,_,hEnv⟩:=hR.facts;have hop:=rt_Open hR (by simp;omega) hg;simp only[List.nil_append]at hop;have HOp:=qd hop;have HNd:=qd hnd;have HE64:=qd (ents64M hR);have H6:=qd h6;have HW0:=qd hEnv.size;have Hl192:=qd (show a.ents.length≤192 by omega);have HBd:=qd (show a.ents.length+(highs a).length≤224 from by unfold highs;rw[List.length_map];omega);have HPt0:=qd (pot_le a.ents (highs a) ⟨0,0,false⟩);clear hop hR hlts hnd hlM hM h32 hEnv hg h6 hI;go_in;go_wp2_with fail;refine HOp.out.mono ?_;rintro y w1 ⟨cb,rfl,F1,hA1,hs1,hm1⟩;have HLn:=qd (rt_Len hA1);have HNw:=qd (pl_New a.ents.length w1);obtain⟨n0,hn0⟩:∃n0,n0=a.ents.length:=⟨_,rfl⟩;rw[←hn0]at HLn HNw;have HN0:=qd hn0;have HX:=qd (And.intro hA1 (And.intro hs1 hm1));clear hA1 hs1 hm1 HOp hn0;go_wp2_with fail;refine HLn.out.mono ?_;rintro y wq ⟨rfl,rfl⟩;go_wp2_with fail;refine HNw.out.mono ?_;rintro y w2 ⟨rfl,hf2,hb2⟩;obtain⟨fb,hfb⟩:∃fb,fb=w1.heap.size:=⟨_,rfl⟩
 have HT:=qd (show Two W0 E H K M I b w w2 G F1 a ids [⟨gv+1,cb,⟨0,0,false⟩⟩] (gv+1) lst0 fb n0 [fb] (allP (([]:List Ent).map kvE))from by
  obtain⟨g1,g2,g3⟩:=HX.out;have hsz:=g3.size;rw[hfb]
  exact⟨g1.below hb2,pl_base hf2 hsz,fun q hq hF=>by have:=(g1.facts.1 q hF).1;simp at hq;omega,g2,g3.then (Mod.of_below hb2 _),HW0.out⟩)
 rw[←hfb];have HW:=qd (Way.start a.ents (highs a));clear hf2 hb2 hfb HX HLn HNw;go_wp2;go_loopg [7] (pot a.ents (highs a) ⟨0,0,false⟩) (fun k _ wr=>∃(n1:Nat) (F:List Nat) (c:Cur) (lst:Cnt) (out:List Ent) (F2:List Nat),k=pot a.ents (highs a) c∧Hid (Two W0 E H K M I b w wr G F a ids [⟨gv+1,cb,c⟩] (gv+1) lst fb n0 F2 (allP (out.map kvE)))∧Hid (Way a.ents (highs a) n1 out c))
 case atStart=>exact⟨0,F1,_,_,[],[fb],rfl,HT,HW⟩
 case round=>
  clear HT HW;obtain⟨n1,F,c,lst,out,F2,hk,HT,HW⟩:=hrel;have HNx:=rt_Next HT.out.map H6.out (id:=gv+1) (cb:=cb) (c:=c) (by simp) HW.out.ok;unfold itV at HNx;replace HNx:=qd HNx;have HK:=qd hk;clear hk;go_wp2_with fail;refine HNx.out.mono ?_;rintro y w5 ⟨it,c',lst',rfl,hns,-,hrt⟩;obtain⟨out',hw',hor⟩:=HW.out.next HNd.out HE64.out hns;have HPt:=qd (fun hst:it.st≠3=>hns.pot HE64.out hst);obtain⟨F',hT5⟩:=HT.out.step hrt;have HT5:=qd (show Two W0 E H K M I b w w5 G F' a ids [⟨gv+1,cb,c'⟩] (gv+1) lst' fb n0 F2 (allP (out.map kvE))from by simpa[itSet]using hT5);have HW5:=qd hw';have HOr:=qd hor;obtain⟨st,ky,vl⟩:=it;clear hT5 hrt hns hw' hor HNx HT HW;go_upto_region 8 with fail;refine nameW (F:=fun v=>Blk v w5.heap.size 64 #[.int .i64 (st:Int),.int .u64 (ky:Int),.int .u64 (vl:Int)]∧Below w5.heap.size w5 v) ⟨Blk.new w5 64 #[.int .i64 (st:Int),.int .u64 (ky:Int),.int .u64 (vl:Int)],(Below.refl w5.heap.size w5).alloc (Nat.le_refl _) _⟩ ?_;rintro w6 ⟨hB6,hb6⟩;obtain⟨bx,hbx⟩:∃bx,bx=w5.heap.size:=⟨_,rfl⟩;rw[←hbx]at hB6⊢;obtain⟨x0,x1,x2⟩:=hB6.c3;have HT6:=qd (HT5.out.below hb6);clear hB6 hb6 hbx HT5;rcases HOr.out with⟨hst,_,m,_,hout,_,_,hky,hvl,_⟩|⟨hst,hout,_,_,h23,hdn⟩
  ·try simp only at hst hky hvl
   subst hst;subst hky;subst hvl;subst hout;have HK':=qd (show pot a.ents (highs a) c'<gk from by rw[HK.out];exact HPt.out (by decide));have hroom:=way_room HNd.out HW5.out
   have hlen:(allP (out.map kvE)).length≤192:=by have:=hroom.1;have:=Hl192.out;omega
   have HPu:=qd (pl_Put HT6.out.fn (by omega) m.key m.val (fun _=>by rw[HN0.out];exact hroom.1) (by rw[HN0.out];have:=Hl192.out;omega));clear HPt HOr hroom hlen;go_wp2_with fail;refine HPu.out.mono ?_;rintro y w7 ⟨rfl,hto⟩;obtain⟨F3,hT7⟩:=HT6.out.put hto;have HT7:=qd (show Two W0 E H K M I b w w7 G F' a ids [⟨gv+1,cb,c'⟩] (gv+1) lst' fb n0 F3 (allP ((out++[m]).map kvE))from by rw[List.map_append,List.map_singleton,allP_snoc];exact hT7);clear hto hT7 HT6 HPu x0 x1 x2;go_wp2;go_roundg (pot a.ents (highs a) c')
   case measure=>exact HK'.out
   case rel=>exact⟨n1+1,F',c',lst',out++[m],F3,rfl,HT7,HW5⟩
  ·try simp only at hst h23 hdn
   subst hout;rcases h23 with rfl|rfl
   ·have HK':=qd (show pot a.ents (highs a) c'<gk from by rw[HK.out];exact HPt.out (by decide));clear HPt HOr hdn hst;go_wp2;go_roundg (pot a.ents (highs a) c')
    case measure=>exact HK'.out
    case rel=>exact⟨n1+1,F',c',lst',out',F2,rfl,HT6,HW5⟩
   ·have hend:=way_end HNd.out HW5.out (hdn.1 rfl);have HEnd:=qd hend;have HPr:=qd (pl_Pairs HT6.out.fn (by rw[hend.2];have:=Hl192.out;omega));clear HPt HOr hdn hst hend;go_wp2_with fail;refine HPr.out.mono ?_;rintro y w7 ⟨v',rfl,ho7,hb7⟩;obtain⟨A',c7,rfl⟩:=own_form ho7;have HT7:=qd (HT6.out.below hb7);have HO7:=qd (And.intro ho7 (And.intro hb7.size (show∀q∈F',q<w6.heap.size from fun q hq=>(HT6.out.map.facts.1 q hq).1)));have HCl:=qd (rt_Close HT7.out.map (j:=0) rfl);have hsz6:=HT6.out.mod.size;clear ho7 hb7 HPr HT6 x0 x1 x2;go_wp2_with fail;refine HCl.out.mono ?_;rintro y w8 ⟨rfl,F8,hA8,hs8,hm8⟩;have hown:∀q∈(Value.slice A' (allP (out'.map kvE)).length c7).ownBlock.toList,w6.heap.size≤q∧q<w7.heap.size:=fun q hq=>HO7.out.1.lt q (by simpa using hq)
    have HFin:=qd (show w8.ownsRow w.heap.size 29 2 (.slice A' (allP (out'.map kvE)).length c7) (allP (out'.map kvE)).length ((allP (out'.map kvE)).flatMap pairC)∧(∀q∈(Value.slice A' (allP (out'.map kvE)).length c7).ownBlock.toList,q∉F8)∧MpAt W0 E H K M I b F8 w8 (fnM a.ents) a.ents.length [] (gv+1)∧(∀q∈F8,q∈G∨w.heap.size≤q)∧Mod G w w8 from by
     refine⟨own_farK (own_lowK HO7.out.1 hsz6) hm8 (fun q hq hF=> ?_),fun q hq hF=> ?_,⟨a,ids,lst',by simpa using hA8,rfl,rfl⟩,fun q hq=> ?_,HT7.out.mod.trans hm8 (fun _ hk _=>hk) (fun q hq hl=>(HT7.out.from_ q hq).elim id (fun k=>absurd hl (by omega)))⟩
     ·have:=hown q hq;have:=HO7.out.2.2 q hF;omega
     ·have h1:=hown q hq;rcases hs8 q hF with k|k
      ·have:=HO7.out.2.2 q k;omega
      ·omega
     ·rcases hs8 q hq with k|k
      ·exact HT7.out.from_ q k
      ·exact .inr (by have:=HT7.out.mod.size;omega))
    clear hA8 hs8 hm8 hown HCl HT7 HO7;go_wp2;refine bodyPost_ret (v:= .tuple #[.slice A' (allP (out'.map kvE)).length c7,.nilIface]) (by simp[results,Tryz.results9,go_sem]) rfl ⟨_,allP (out'.map kvE),F8,rfl,allP_asc _,HEnd.out.1,HFin.out⟩
end
end Go.Proofs.YtchlkhkeonnmdacGreatDoor
