/- A map's Next, and a new map, by their contracts. No statement of the claim. -/
import Derived.Test.YtkkibocdfijnhaaGreatDoorRmG
import Derived.Test.YtkkibocdfijnhaaGreatDoorSqM
import Derived.Test.YtkkibocdfijnhaaGreatDoorCoO
import Derived.Test.YtkkibocdfijnhaaGreatDoorLaneP
import Derived.Test.YtkkibocdfijnhaaGreatDoorLaw21e
import Derived.Test.YtkkibocdfijnhaaGreatDoorCoI
import Ieee.Arith
namespace Go.Proofs.YtkkibocdfijnhaaGreatDoor
set_option maxRecDepth 100000
set_option maxHeartbeats 4000000
open Go.RowKit bV Ieee
variable {its : List It} {I Kk M b cb gv id : Nat} {c : iU} {W0 : World} {E : Nat → Addr} {H : Nat → Nat} {a : Pool} {ids : List Nat}
theorem SQ (hn:(its.map It.id).Nodup)(hi:⟨id,cb,c⟩∈its):jD its id c=its:=by
 unfold jD
 conv=>rhs;rw[←List.map_id its]
 apply List.map_congr_left;intro i hi';by_cases h:i.id=id
 ·rw[if_pos h,sG hn hi' hi h];rfl
 ·rw[if_neg h];rfl
theorem YT {G0:List Nat}{w0 V:World}{C:fB}{GC:List Nat}{mb:Nat}{pm pc:Nat}(hS:fU W0 E H Kk M I b G0 w0 C GC mb gv V a ids its)(hm:aj V pm 52 #[pQ b])(hc:aj V pc 180 #[pQ cb])(hi:⟨id,cb,c⟩∈its)(hd:c.done=false)(hok:c.ok):Calls Tryz.prog 95 #[pQ pm,pQ pc] V fun y w'=>∃it,y= .returned (.tuple #[Ag it,.nilIface])∧Mod (cb::GC) V w'∧sH W0 E H Kk M I b G0 w0 C GC mb gv a ids its id cb c V it w':=by
 have hsl:=hS.fM;have hW0:=hS.mod.size;have hB:=(Below.refl V.heap.size V).alloc (Nat.le_refl _) (.cells #[.int .i64 0,.int .u64 0,.int .u64 0] 139);have hR:=aj.new V 139 #[.int .i64 0,.int .u64 0,.int .u64 0];obtain⟨W,hW⟩:∃W,W=V.alloc (.cells #[.int .i64 0,.int .u64 0,.int .u64 0] 139):=⟨_,rfl⟩;rw[←hW]at hB hR;have hst:=abg (hS.below hB) hi hd hok;have jy:=qd hst;have HR:=qd hR;have HW:=qd hW;have HB:=qd hB;have HNf:=qd (show V.heap.size∉dY b C GC mb its from fun hg=>by have:=(hsl _ hg).1;omega)
 have QS:=qd (show V.heap.size∉cb::GC from fun hg=>by
  rcases List.mem_cons.1 hg with k|k
  ·have:cb<V.heap.size:=(hS.kL.cur _ hi).lt;omega
  ·have:=(hsl _ (aG.2 (.inr (.inr k)))).1;omega)
 have HL:=qd (show V.heap.size<W.heap.size from hR.lt)
 have HCb:=qd (show cb∈bB C.ib mb its from by
  unfold bB;simp only[List.mem_cons,List.mem_map]
  exact .inr (.inr ⟨_,hi,rfl⟩))
 have HW0:=qd hW0;have x0:=(hm.mod (Mod.of_below hB []) (by simp)).cell 0;have y0:=(hc.mod (Mod.of_below hB []) (by simp)).cell 0;simp only[List.getElem?_toArray,List.getElem?_cons_zero]at x0 y0;clear hst hR hW hB hS hi hd hok hm hc hsl hW0;go_in;go_upto_region 1 with fail;rw[←HW.out];go_wp2_with fail;refine jy.out.mono ?_;rintro y w1 ⟨it,rfl,hp⟩
 have hmm:Mod (cb::GC) W w1:=by obtain⟨_,_,_,_,_,_,_,_,q⟩:=hp;exact q
 have hr1:=HR.out.mod hmm QS.out;obtain⟨r0,r1,r2⟩:=hr1.c3;obtain⟨f0,f1,f2⟩:=hr1.f3;have dh:=(((Mod.refl [V.heap.size] w1).ak (b:=V.heap.size) (.inl (by simp)) 0 (nI it.st)).ak (b:=V.heap.size) (.inl (by simp)) 1 (nU it.key)).ak (b:=V.heap.size) (.inl (by simp)) 2 (nU it.val);obtain⟨c',cc,fG,q1,q2,q3,q4,q5,q6⟩:=hp.mod dh (fun q hq=>by rw[List.mem_singleton.1 hq];exact⟨HNf.out,HW0.out,HL.out⟩)
 have hq6:=(Mod.of_below HB.out (cb::GC)).trans q6 (fun q hq _=>hq) (fun q hq hl=>by
  rcases List.mem_cons.1 hq with k|k
  ·rw[k];simp
  ·rcases List.mem_append.1 k with k|k
   ·exact List.mem_cons_of_mem _ k
   ·rw[List.mem_singleton.1 k]at hl;omega)
 have HF:=qd (show∃KV,(Ending.returned (.tuple #[.agg #[nI it.st,nU it.key,nU it.val],.nilIface]))= .returned (.tuple #[Ag KV,.nilIface])∧Mod (cb::GC) V _∧sH W0 E H Kk M I b G0 w0 C GC mb gv a ids its id cb c V KV _ from⟨it,rfl,hq6,c',cc,fG,q1,q2,q3,q4,fun q hq=>(q5 q hq).elim .inl (fun k=> .inr (by have:=HL.out;omega)),hq6⟩);clear hmm hr1 dh q1 q2 q3 q4 q5 q6 hq6 hp jy;unfold Ag;go_wp2;refine bodyPost_ret (v:= .tuple #[.agg #[nI it.st,nU it.key,nU it.val],.nilIface]) (by simp[results,Tryz.results95,go_sem,r0,r1,r2]) rfl HF.out
theorem abk {G:List Nat}{w:World}{fC:bC}(h:j6 W0 E H Kk M I b G w a ids its gv fC)(OO:bX E W0 6)(hi:⟨id,cb,c⟩∈its)(hok:c.ok):Calls Tryz.prog 66 #[pQ b,nI id] w fun y w'=>∃it c' jh,y= .returned (.tuple #[Ag it,.nilIface])∧lK a.ents (yS a) c it c'∧OA jh∧oQ W0 E H Kk M I b G w w' a ids (jD its id c') gv jh:=by
 obtain⟨C,GC,mb,hS,rfl,mY⟩:=h;obtain⟨W,hW,hB,hBm,hBr⟩:=kF w 52 #[pQ b] 139 #[.int .i64 0,.int .u64 0,.int .u64 0];have hlt:=fun q hq=>(hS.fM q hq).1;have iW:=qd (show∀q,w.heap.size≤q→q∉dY b C GC mb its from fun q hq hg=>by have:=hlt q hg;omega);have HS:=qd (hS.below hB);have HX:=qd hBm;have HR:=qd hBr;have HB:=qd hB;have HW:=qd hW;have HI:=qd hi;have J5:=qd hok;have MX:=qd hS.kL.nd;have hbk:=(hS.below hB).blk.blk;unfold fB.cells at hbk;have c16:=hbk.cell 16;simp only[gl]at c16;have x0:=hBm.cell 0;simp only[List.getElem?_toArray,List.getElem?_cons_zero]at x0;have iQ:=qd (OC (hS.below hB).kL hi);have h6:W.cell? ⟨gE 6,0,none⟩=some (.iface 318 (.pointer (some (E 6)))):=(World.cell?_of_block ((hS.below hB).core.facts.2.2.2.2.2.2.2.2.2.2.2.below.block _ (World.block_lt_of_cell? W0 _ OO))).trans OO;have H6:=qd h6
 have HSl:=qd (show∀q∈cb::GC,q<w.heap.size from fun q hq=>by
  rcases List.mem_cons.1 hq with k|k
  ·rw[k];exact(hS.kL.cur _ hi).lt
  ·exact hlt q (aG.2 (.inr (.inr k))))
 have HCb:=qd (show cb∈bB C.ib mb its from by
  unfold bB;simp only[List.mem_cons,List.mem_map]
  exact .inr (.inr ⟨_,hi,rfl⟩))
 clear hbk hW hB hBm hBr hS hi hok hlt mY h6;go_in;go_upto_region 1 with fail;rw[←HW.out];go_wp2_with fail;refine iQ.out.mono ?_;rintro y w1 ⟨rfl,rfl⟩;clear iQ x0 c16;go_upto_region 2 with fail;refine dI 180 #[pQ cb] ?_;rintro W1 ⟨hP,hb⟩;have h6:=aA hb H6.out;have HP:=qd hP;replace HS:=qd (HS.out.below hb);replace HX:=qB hb HX;replace HR:=qB hb HR;have HB1:=qd (bL hb HB.out);obtain⟨pc,hpc⟩:∃pc,pc=W.heap.size:=⟨_,rfl⟩;rw[←hpc]at HP⊢;have zQ:=qd hpc;replace H6:=qd h6;clear hP hb hpc h6;have p0:=HP.out.cell 0;simp only[List.getElem?_toArray,List.getElem?_cons_zero]at p0;have hdn:=ER (HS.out.kL.cur _ HI.out);have HNr:=qd (show(w.heap.size+1)∉[b]from fun hg=>iW.out _ (by omega) (aG.2 (.inl (List.mem_singleton.1 hg))));have BM:=qd HNr.out;have x0:=HX.out.cell 0;simp only[List.getElem?_toArray,List.getElem?_cons_zero]at x0
 cases hd:c.done with
 |true=>
  rw[hd]at hdn;have HDn:=qd hdn;have sD:=qd (show Calls Tryz.prog 39 #[pQ b,.agg #[.int .i64 0,.int .i64 0,.int .i64 0]] W1 _ from um HS.out.blk ⟨0,0,0⟩);have EN:=qd (fun V=>VW (E 6) V);have Vo:=qd hd;clear hdn hd;go_wp2_with fail;refine HDn.out.mono ?_;rintro y w2 ⟨rfl,rfl⟩;clear HDn;go_wp2_with fail;refine sD.out.mono ?_;rintro y w2 ⟨rfl,hB2,hm2⟩;have hs2:=HS.out.Dq hB2 hm2 ⟨rfl,rfl,rfl,rfl,rfl⟩
  have hgb:gE 6∉[b]:=fun hh=>by
   have h1:=World.block_lt_of_cell? W0 _ OO;have h2:=HS.out.b0.1;rw[List.mem_singleton.1 hh]at h1;exact absurd h1 (by show¬b<W0.heap.size;omega)
  have h6:w2.cell? ⟨gE 6,0,none⟩=some (.iface 318 (.pointer (some (E 6)))):=(World.cell?_of_block (hm2.block _ (World.block_lt_of_cell? W1 _ H6.out) hgb)).trans H6.out;unfold gE at h6;have hr2:=HR.out.mod hm2 HNr.out;obtain⟨r0,r1,r2⟩:=hr2.c3;obtain⟨f0,f1,f2⟩:=hr2.f3;have HS2:=qd hs2;clear hs2 hB2 hm2 hgb hr2 sD;go_wp2_with fail;refine(EN.out _).mono ?_;rintro y w3 ⟨rfl,rfl⟩;clear EN;have dh:=(((Mod.refl [w.heap.size+1] w2).ak (b:=w.heap.size+1) (.inl (by simp)) 0 (.int .i64 3)).ak (b:=w.heap.size+1) (.inl (by simp)) 1 (.int .u64 0)).ak (b:=w.heap.size+1) (.inl (by simp)) 2 (.int .u64 0);have hs3:=HS2.out.zo dh (fun q hq=>by rw[List.mem_singleton.1 hq];exact⟨iW.out _ (by omega),by omega⟩);have hto:=hs3.to;have HF:=qd (show∃it c' jh,(Ending.returned (.tuple #[.agg #[.int .i64 3,.int .u64 0,.int .u64 0],.nilIface]))= .returned (.tuple #[Ag it,.nilIface])∧lK a.ents (yS a) c it c'∧OA jh∧oQ W0 E H Kk M I b (dY b C GC mb its) w _ a ids (jD its id c') gv jh from⟨⟨3,0,0⟩,c,⟨0,0,0⟩,rfl,.done Vo.out,⟨by decide,by decide,rfl⟩,by rw[SQ MX.out HI.out];exact hto⟩);clear dh hs3 hto h6;go_wp2;refine bodyPost_ret (v:= .tuple #[.agg #[.int .i64 3,.int .u64 0,.int .u64 0],.nilIface]) (by simp[results,Tryz.results66,go_sem,r0,r1,r2]) rfl HF.out
 |false=>
  rw[hd]at hdn;have HDn:=qd hdn;have om:∀(fn:Fn) (first cap:Array Value) (w:World),(Instr.makeFunc fn first cap).run Tryz.prog w= .ok (.func fn first cap) w:=fun _ _ _ _=>rfl
  have TW:=qd (YS (S:=cb::GC) (K:=fun V it w1=>sH W0 E H Kk M I b (dY b C GC mb its) w C GC mb gv a ids its id cb c V it w1) 95 #[pQ w.heap.size,pQ pc] W1 (fun V=>enters_of Tryz.func95 (by kernel_rfl) rfl _ V) (fun q hq=>Nat.lt_of_lt_of_le (HSl.out q hq) HB1.out.size)
   (fun V qN _=>YT (HS.out.below qN) (HX.out.mod (Mod.of_below qN []) (by simp)) (HP.out.mod (Mod.of_below qN []) (by simp)) HI.out hd J5.out))
  have VX:=qd (show w.heap.size<W1.heap.size∧w.heap.size+1<W1.heap.size from⟨HX.out.lt,HR.out.lt⟩);clear hdn hd p0;have p0:=HP.out.cell 0;simp only[List.getElem?_toArray,List.getElem?_cons_zero]at p0;go_wp2_with fail;refine HDn.out.mono ?_;rintro y w2 ⟨rfl,rfl⟩;clear HDn;go_wp2_with fail;refine TW.out.mono ?_;rintro y w3 ⟨V,it,w2,T,rfl,qN,hmS,hst,hmT,hT⟩;have hxs:∀q,w.heap.size≤q→q<W1.heap.size→q∉cb::GC∧q∉T:=fun q h1 h2=>⟨fun hh=>by have:=HSl.out q hh;omega,fun hh=>by have:=(hT q hh).1;omega⟩;have VY:=((HX.out.mod (Mod.of_below qN []) (by simp)).mod hmS (hxs _ (Nat.le_refl _) VX.out.1).1).mod hmT (hxs _ (Nat.le_refl _) VX.out.1).2;have nA:=((HR.out.mod (Mod.of_below qN []) (by simp)).mod hmS (hxs _ (by omega) VX.out.2).1).mod hmT (hxs _ (by omega) VX.out.2).2
  obtain⟨c',cc,fG,q1,q2,q3,q4,q5,q6⟩:=hst.mod hmT (fun q hq=>by
   have:=hT q hq;have:=HB1.out.size
   exact⟨iW.out q (by omega),by omega,by omega⟩)
  replace HX:=qd VY;replace HR:=qd nA;replace HS:=qd q3;have tC:=qd q4;have ny:=qd (And.intro q1 q2);have HR4:=qd (show(w.heap.size+1)∉fG from fun hg=>(q5 _ hg).elim (fun k=>iW.out _ (by omega) (aG.2 (.inr (.inr k)))) (fun k=>by have:=VX.out.2;have:=qN.size;omega));have MK:=qd (show∀q,w3.heap.size≤q→q≠b from fun q hq e=>by have:=q3.blk.lt;omega);clear hxs VY nA hst hmT hT hmS qN q1 q2 q3 q4 q5 q6 TW p0 x0;unfold Ag;go_upto_region 8 with fail;refine dI 139 #[nI it.st,nU it.key,nU it.val] ?_;rintro W4 ⟨hO,hb⟩;replace HS:=qd (HS.out.below hb);replace tC:=qd (tC.out.below hb);replace HX:=qB hb HX;replace HR:=qB hb HR;have HO:=qd hO;have ZX:=qd (show w3.heap.size∉[b]from fun hh=>MK.out _ (Nat.le_refl _) (List.mem_singleton.1 hh));obtain⟨ob,l7⟩:∃ob,ob=w3.heap.size:=⟨_,rfl⟩;rw[←l7]at HO ZX⊢;clear hO hb l7;have hcc:=tC.out;have hbk:=HS.out.blk.blk;unfold fB.cells at hbk;have c3:=hbk.cell 3;simp only[gl]at c3;have x0:=HX.out.cell 0;simp only[List.getElem?_toArray,List.getElem?_cons_zero]at x0;have gB:=qd (Af (hcc.below (Below.refl W4.heap.size W4).drew));unfold mH at gB;clear hbk hcc;refine rT (fun(w':World)=>w'.cell? ⟨w.heap.size,0,none⟩=some (pQ b)∧w'.cell? ⟨b,3,none⟩=some (pQ C.cb)) [7] ?_;have hHeld:=(⟨x0,c3⟩:_∧_);refine vT 0 rfl ?_;refine nT 1 rfl fun K hK=> ?_;go_simp;refine kO hK ?_;clear hK K;refine vW 2 rfl ?_;refine vW 3 rfl ?_;refine nT 4 rfl fun K hK=> ?_;go_simp;refine kO hK ?_;clear hK K;refine nT 5 rfl fun K hK=> ?_;go_simp;refine(sF _ _).mono ?_
  rintro y V1 ⟨rfl,rfl⟩;go_wp2_with fail;have hHeld:=(⟨x0,c3⟩:_∧_);refine kO hK ?_;clear hK K;refine nT 6 rfl fun K hK=> ?_;go_simp;refine(gB.out).mono ?_;rintro y V2 ⟨rfl,hb⟩;replace hb:Below W4.heap.size W4 V2:=bL hb (Below.refl _ _).drew;replace HS:=qd (HS.out.below hb);replace HR:=qB hb HR;replace HO:=qB hb HO;replace x0:=aA hb x0;replace c3:=aA hb c3;clear hb gB;go_wp2_with fail;have hHeld:=(⟨x0,c3⟩:_∧_);refine kO hK ?_;clear hK K;refine nT 7 rfl fun K hK=> ?_;go_simp;have kr:=qd (show Calls Tryz.prog 39 #[pQ b,.agg #[.int .i64 cc.p,.int .i64 cc.v,.int .i64 cc.u]] V2 _ from um HS.out.blk cc);refine(kr.out).mono ?_;rintro y V3 ⟨rfl,hwr,q3⟩;have jW:=qd (HS.out.Dq hwr q3 ⟨rfl,rfl,rfl,rfl,rfl⟩);replace HR:=qd (HR.out.mod q3 BM.out);replace HO:=qd (HO.out.mod q3 ZX.out);clear hwr q3 kr HS x0 c3;go_wp2_with fail;refine kO hK ?_;clear hK K;refine aU (by kernel_rfl) ?_ _;have o0:=HO.out.cell 0;have o1:=HO.out.cell 1;have o2:=HO.out.cell 2;have r0:=HR.out.cell 0;have r1:=HR.out.cell 1;have r2:=HR.out.cell 2;simp only[gl]at o0 o1 o2 r0 r1 r2;obtain⟨f0,f1,f2⟩:=HR.out.f3;have dh:=(((Mod.refl [w.heap.size+1] V3).ak (b:=w.heap.size+1) (.inl (by simp)) 0 (nI it.st)).ak (b:=w.heap.size+1) (.inl (by simp)) 1 (nU it.key)).ak (b:=w.heap.size+1) (.inl (by simp)) 2 (nU it.val)
  have hs3:=jW.out.zo dh (fun q hq=>by
   rw[List.mem_singleton.1 hq];refine⟨fun hg=> ?_,by omega⟩;have nS:=HR4.out;rcases aG.1 hg with k|k|k
   ·exact iW.out _ (by omega) (aG.2 (.inl k))
   ·rw[wJ]at k;exact iW.out _ (by omega) (aG.2 (.inr (.inl k)))
   ·exact nS k)
  have hto:=hs3.to;have HF:=qd (show∃KV c' jh,(Ending.returned (.tuple #[.agg #[nI it.st,nU it.key,nU it.val],.nilIface]))= .returned (.tuple #[Ag KV,.nilIface])∧lK a.ents (yS a) c KV c'∧OA jh∧oQ W0 E H Kk M I b (dY b C GC mb its) w _ a ids (jD its id c') gv jh from⟨it,c',cc,rfl,ny.out.1,ny.out.2,hto⟩);clear dh hs3 hto;go_wp2;refine bodyPost_ret (v:= .tuple #[.agg #[nI it.st,nU it.key,nU it.val],.nilIface]) (by simp[results,Tryz.results66,go_sem,r0,r1,r2]) rfl HF.out
end Go.Proofs.YtkkibocdfijnhaaGreatDoor

/-! Next of an iterator that there isn't. No statement of the claim. -/
namespace Go.Proofs.YtkkibocdfijnhaaGreatDoor
set_option maxRecDepth 100000
set_option maxHeartbeats 4000000
open Go.RowKit bV Ieee
theorem OP {W0:World}{E:Nat→Addr}{H:Nat→Nat}{Kk M I b:Nat}{G:List Nat}{w:World}{a:Pool}{ids:List Nat}{its:List It}{gv:Nat}{fC:bC}{id:Int}(h:j6 W0 E H Kk M I b G w a ids its gv fC)(OO:bX E W0 6)(hn:∀i∈its,(i.id:Int)≠id):Calls Tryz.prog 66 #[pQ b,.int .i64 id] w fun y w'=>y= .returned (.tuple #[.agg #[.int .i64 0,.int .u64 0,.int .u64 0],.iface 318 (.pointer (some (E 6)))])∧oQ W0 E H Kk M I b G w w' a ids its gv ⟨0,0,0⟩:=by
 obtain⟨C,GC,mb,hS,rfl,mY⟩:=h;obtain⟨W,hW,hB,hBm,hBr⟩:=kF w 52 #[pQ b] 139 #[.int .i64 0,.int .u64 0,.int .u64 0];have hlt:=fun q hq=>(hS.fM q hq).1;have iW:=qd (show∀q,w.heap.size≤q→q∉dY b C GC mb its from fun q hq hg=>by have:=hlt q hg;omega);have HS:=qd (hS.below hB);have HX:=qd hBm;have HR:=qd hBr;have HB:=qd hB;have HW:=qd hW;have hbk:=(hS.below hB).blk.blk;unfold fB.cells at hbk;have c16:=hbk.cell 16;simp only[gl]at c16;have x0:=hBm.cell 0;simp only[List.getElem?_toArray,List.getElem?_cons_zero]at x0;have h6:W.cell? ⟨gE 6,0,none⟩=some (.iface 318 (.pointer (some (E 6)))):=(World.cell?_of_block ((hS.below hB).core.facts.2.2.2.2.2.2.2.2.2.2.2.below.block _ (World.block_lt_of_cell? W0 _ OO))).trans OO;have iQ:=qd (BN (hS.below hB).kL hn h6);have H6:=qd h6;clear hbk hW hB hBm hBr hS hlt mY h6 hn;go_in;go_upto_region 1 with fail;rw[←HW.out];go_wp2_with fail;refine iQ.out.mono ?_;rintro y w1 ⟨rfl,hb1⟩;replace H6:=qd (aA hb1 H6.out);replace HS:=qd (HS.out.below hb1);replace HX:=qB hb1 HX;replace HR:=qB hb1 HR;replace HB:=qd (bL hb1 HB.out);clear iQ x0 c16 hb1 HW;go_upto_region 2 with fail;refine dI 180 #[.pointer none] ?_;rintro W1 ⟨hP,hb⟩;have h6:=aA hb H6.out;replace HS:=qd (HS.out.below hb);replace HX:=qB hb HX;replace HR:=qB hb HR;have HB1:=qd (bL hb HB.out);obtain⟨pc,hpc⟩:∃pc,pc=w1.heap.size:=⟨_,rfl⟩;rw[←hpc];replace H6:=qd h6;clear hP hb hpc h6
 have HNr:=qd (show(w.heap.size+1)∉[b]from fun hg=>iW.out _ (by omega) (aG.2 (.inl (List.mem_singleton.1 hg))));have x0:=HX.out.cell 0;simp only[List.getElem?_toArray,List.getElem?_cons_zero]at x0;have sD:=qd (show Calls Tryz.prog 39 #[pQ b,.agg #[.int .i64 0,.int .i64 0,.int .i64 0]] W1 _ from um HS.out.blk ⟨0,0,0⟩);have EN:=qd (fun V=>IW (E 6) V);go_wp2_with fail;refine sD.out.mono ?_;rintro y w2 ⟨rfl,hB2,hm2⟩;have hs2:=HS.out.Dq hB2 hm2 ⟨rfl,rfl,rfl,rfl,rfl⟩
 have hgb:gE 6∉[b]:=fun hh=>by
  have h1:=World.block_lt_of_cell? W0 _ OO;have h2:=HS.out.b0.1;rw[List.mem_singleton.1 hh]at h1;exact absurd h1 (by show¬b<W0.heap.size;omega)
 have h6:w2.cell? ⟨gE 6,0,none⟩=some (.iface 318 (.pointer (some (E 6)))):=(World.cell?_of_block (hm2.block _ (World.block_lt_of_cell? W1 _ H6.out) hgb)).trans H6.out;unfold gE at h6;have hr2:=HR.out.mod hm2 HNr.out;obtain⟨r0,r1,r2⟩:=hr2.c3;obtain⟨f0,f1,f2⟩:=hr2.f3;have HS2:=qd hs2;clear hs2 hB2 hm2 hgb hr2 sD;go_wp2_with fail;refine(EN.out _).mono ?_;rintro y w3 ⟨rfl,rfl⟩;clear EN;have dh:=(((Mod.refl [w.heap.size+1] w2).ak (b:=w.heap.size+1) (.inl (by simp)) 0 (.int .i64 0)).ak (b:=w.heap.size+1) (.inl (by simp)) 1 (.int .u64 0)).ak (b:=w.heap.size+1) (.inl (by simp)) 2 (.int .u64 0);have hs3:=HS2.out.zo dh (fun q hq=>by rw[List.mem_singleton.1 hq];exact⟨iW.out _ (by omega),by omega⟩);have HF:=qd hs3.to;clear dh hs3 h6;go_wp2;refine bodyPost_ret (v:= .tuple #[.agg #[.int .i64 0,.int .u64 0,.int .u64 0],.iface 318 (.pointer (some (E 6)))]) (by simp[results,Tryz.results66,go_sem,r0,r1,r2]) rfl ⟨rfl,HF.out⟩
end Go.Proofs.YtkkibocdfijnhaaGreatDoor

/-! The plain law of floats below 2 to the 50th: what is exact, and what rounding to the nearest whole number gives. No program in sight. -/
namespace Go.Proofs.YtkkibocdfijnhaaGreatDoor.vG
set_option maxRecDepth 100000
set_option maxHeartbeats 4000000
open Go.RowKit bV Ieee
variable {m w : Nat}
def acS (w:Nat):Nat:=if w<4503599627370496 then w else 4503599627370496+w % 4503599627370496
def SS (w:Nat):Nat:=if w<4503599627370496 then 1074 else 1075-w/4503599627370496
def Low (w:Nat):Prop:=w≤4832362400168542208
def whole (w:Nat):Nat:=acS w/2^SS w
def wG (w:Nat):Nat:=acS w % 2^SS w
def rounded (w:Nat):Nat:=whole w+if 2^SS w≤2*wG w then 1 else 0
def aeA (w:Nat):Nat:=
 if w/4503599627370496<1023 then(if w/4503599627370496=1022 then 4607182418800017408 else 0)
 else(w+2^(51-(w/4503599627370496-1023)))/2^(52-(w/4503599627370496-1023))*2^(52-(w/4503599627370496-1023))
end Go.Proofs.YtkkibocdfijnhaaGreatDoor.vG
