/- A map's Next, and a new map, by their contracts. No statement of the claim. -/
import Derived.Test.YtgkeameopnpinaaGreatDoorRmG
import Derived.Test.YtgkeameopnpinaaGreatDoorSqM
import Derived.Test.YtgkeameopnpinaaGreatDoorCoO
import Derived.Test.YtgkeameopnpinaaGreatDoorLaneP
import Derived.Test.YtgkeameopnpinaaGreatDoorMpA
import Derived.Test.YtgkeameopnpinaaGreatDoorRefG
import Derived.Deep.LoopGhost
import Derived.Test.YtgkeameopnpinaaGreatDoorPlA
import Derived.Test.YtgkeameopnpinaaGreatDoorCoT
import Ieee.Arith
namespace Go.Proofs.YtgkeameopnpinaaGreatDoor
set_option maxRecDepth 100000
set_option maxHeartbeats 4000000
open Go.RowKit bY rZ Ieee
variable {its : List It} {I Kk M b cb gv id : Nat} {c : gq} {W0 : World} {E : Nat → Addr} {H : Nat → Nat} {a : Pool} {ids : List Nat}
theorem Rv (hn:(its.map It.id).Nodup)(hi:⟨id,cb,c⟩∈its):jY its id c=its:=by
 unfold jY
 conv=>rhs;rw[←List.map_id its]
 apply List.map_congr_left;intro i hi';by_cases h:i.id=id
 ·rw[if_pos h,wM hn hi' hi h];rfl
 ·rw[if_neg h];rfl
theorem XK {G0:List Nat}{w0 V:World}{C:fQ}{GC:List Nat}{mb:Nat}{pm pc:Nat}(hS:fT W0 E H Kk M I b G0 w0 C GC mb gv V a ids its)(hm:aj V pm 48 #[pQ b])(hc:aj V pc 133 #[pQ cb])(hi:⟨id,cb,c⟩∈its)(hd:c.done=false)(hok:c.ok):Calls Tryz.prog 66 #[pQ pm,pQ pc] V fun y w'=>∃it,y= .returned (.tuple #[xM it,.nilIface])∧Mod (cb::GC) V w'∧rJ W0 E H Kk M I b G0 w0 C GC mb gv a ids its id cb c V it w':=by
 have hsl:=hS.fA;have hW0:=hS.mod.size;have hB:=(Below.refl V.heap.size V).alloc (Nat.le_refl _) (.cells #[.int .i64 0,.int .u64 0,.int .u64 0] 95);have hR:=aj.new V 95 #[.int .i64 0,.int .u64 0,.int .u64 0];obtain⟨W,hW⟩:∃W,W=V.alloc (.cells #[.int .i64 0,.int .u64 0,.int .u64 0] 95):=⟨_,rfl⟩;rw[←hW]at hB hR;have hst:=Z0 (hS.below hB) hi hd hok;have kJ:=qd hst;have HR:=qd hR;have HW:=qd hW;have HB:=qd hB;have YX:=qd (show V.heap.size∉dQ b C GC mb its from fun hg=>by have:=(hsl _ hg).1;omega)
 have PD:=qd (show V.heap.size∉cb::GC from fun hg=>by
  rcases List.mem_cons.1 hg with k|k
  ·have:cb<V.heap.size:=(hS.nE.cur _ hi).lt;omega
  ·have:=(hsl _ (aH.2 (.inr (.inr k)))).1;omega)
 have HL:=qd (show V.heap.size<W.heap.size from hR.lt)
 have HCb:=qd (show cb∈bN C.ib mb its from by
  unfold bN;simp only[List.mem_cons,List.mem_map]
  exact .inr (.inr ⟨_,hi,rfl⟩))
 have HW0:=qd hW0;have x0:=(hm.mod (Mod.of_below hB []) (by simp)).cell 0;have y0:=(hc.mod (Mod.of_below hB []) (by simp)).cell 0;simp only[List.getElem?_toArray,List.getElem?_cons_zero]at x0 y0;clear hst hR hW hB hS hi hd hok hm hc hsl hW0;go_in;go_upto_region 1 with fail;rw[←HW.out];go_wp2_with fail;refine kJ.out.mono ?_;rintro y w1 ⟨it,rfl,hp⟩
 have hmm:Mod (cb::GC) W w1:=by obtain⟨_,_,_,_,_,_,_,_,q⟩:=hp;exact q
 have hr1:=HR.out.mod hmm PD.out;obtain⟨r0,r1,r2⟩:=hr1.c3;obtain⟨f0,f1,f2⟩:=hr1.f3;have jg:=(((Mod.refl [V.heap.size] w1).ak (b:=V.heap.size) (.inl (by simp)) 0 (nI it.st)).ak (b:=V.heap.size) (.inl (by simp)) 1 (nU it.key)).ak (b:=V.heap.size) (.inl (by simp)) 2 (nU it.val);obtain⟨c',cc,fF,q1,q2,q3,q4,q5,q6⟩:=hp.mod jg (fun q hq=>by rw[List.mem_singleton.1 hq];exact⟨YX.out,HW0.out,HL.out⟩)
 have hq6:=(Mod.of_below HB.out (cb::GC)).trans q6 (fun q hq _=>hq) (fun q hq hl=>by
  rcases List.mem_cons.1 hq with k|k
  ·rw[k];simp
  ·rcases List.mem_append.1 k with k|k
   ·exact List.mem_cons_of_mem _ k
   ·rw[List.mem_singleton.1 k]at hl;omega)
 have HF:=qd (show∃JK,(Ending.returned (.tuple #[.agg #[nI it.st,nU it.key,nU it.val],.nilIface]))= .returned (.tuple #[xM JK,.nilIface])∧Mod (cb::GC) V _∧rJ W0 E H Kk M I b G0 w0 C GC mb gv a ids its id cb c V JK _ from⟨it,rfl,hq6,c',cc,fF,q1,q2,q3,q4,fun q hq=>(q5 q hq).elim .inl (fun k=> .inr (by have:=HL.out;omega)),hq6⟩);clear hmm hr1 jg q1 q2 q3 q4 q5 q6 hq6 hp kJ;unfold xM;go_wp2;refine bodyPost_ret (v:= .tuple #[.agg #[nI it.st,nU it.key,nU it.val],.nilIface]) (by simp[results,Tryz.results66,go_sem,r0,r1,r2]) rfl HF.out
theorem Z6 {G:List Nat}{w:World}{eP:aZ}(h:lV W0 E H Kk M I b G w a ids its gv eP)(hE6:dV E W0 6)(hi:⟨id,cb,c⟩∈its)(hok:c.ok):Calls Tryz.prog 36 #[pQ b,nI id] w fun y w'=>∃it c' gH,y= .returned (.tuple #[xM it,.nilIface])∧jH a.ents (jF a) c it c'∧M5 gH∧oN W0 E H Kk M I b G w w' a ids (jY its id c') gv gH:=by
 obtain⟨C,GC,mb,hS,rfl,sN⟩:=h;obtain⟨W,hW,hB,hBm,hBr⟩:=jZ w 48 #[pQ b] 95 #[.int .i64 0,.int .u64 0,.int .u64 0];have hlt:=fun q hq=>(hS.fA q hq).1;have eH:=qd (show∀q,w.heap.size≤q→q∉dQ b C GC mb its from fun q hq hg=>by have:=hlt q hg;omega);have HS:=qd (hS.below hB);have HX:=qd hBm;have HR:=qd hBr;have HB:=qd hB;have HW:=qd hW;have HI:=qd hi;have IY:=qd hok;have BA:=qd hS.nE.nd;have hbk:=(hS.below hB).blk.blk;unfold fQ.cells at hbk;have c16:=hbk.cell 16;simp only[gl]at c16;have x0:=hBm.cell 0;simp only[List.getElem?_toArray,List.getElem?_cons_zero]at x0;have jA:=qd (Na (hS.below hB).nE hi);have h6:W.cell? ⟨gE 6,0,none⟩=some (.iface 344 (.pointer (some (E 6)))):=(World.cell?_of_block ((hS.below hB).core.facts.2.2.2.2.2.2.2.2.2.2.2.below.block _ (World.block_lt_of_cell? W0 _ hE6))).trans hE6;have H6:=qd h6
 have YO:=qd (show∀q∈cb::GC,q<w.heap.size from fun q hq=>by
  rcases List.mem_cons.1 hq with k|k
  ·rw[k];exact(hS.nE.cur _ hi).lt
  ·exact hlt q (aH.2 (.inr (.inr k))))
 have HCb:=qd (show cb∈bN C.ib mb its from by
  unfold bN;simp only[List.mem_cons,List.mem_map]
  exact .inr (.inr ⟨_,hi,rfl⟩))
 clear hbk hW hB hBm hBr hS hi hok hlt sN h6;go_in;go_upto_region 1 with fail;rw[←HW.out];go_wp2_with fail;refine jA.out.mono ?_;rintro y w1 ⟨rfl,rfl⟩;clear jA x0 c16;go_upto_region 2 with fail;refine dB 133 #[pQ cb] ?_;rintro W1 ⟨hP,hb⟩;have h6:=aD hb H6.out;have HP:=qd hP;replace HS:=qd (HS.out.below hb);replace HX:=qB hb HX;replace HR:=qB hb HR;have HB1:=qd (bR hb HB.out);obtain⟨pc,hpc⟩:∃pc,pc=W.heap.size:=⟨_,rfl⟩;rw[←hpc]at HP⊢;have yU:=qd hpc;replace H6:=qd h6;clear hP hb hpc h6;have p0:=HP.out.cell 0;simp only[List.getElem?_toArray,List.getElem?_cons_zero]at p0;have hdn:=DU (HS.out.nE.cur _ HI.out);have HNr:=qd (show(w.heap.size+1)∉[b]from fun hg=>eH.out _ (by omega) (aH.2 (.inl (List.mem_singleton.1 hg))));have Gf:=qd HNr.out;have x0:=HX.out.cell 0;simp only[List.getElem?_toArray,List.getElem?_cons_zero]at x0
 cases hd:c.done with
 |true=>
  rw[hd]at hdn;have HDn:=qd hdn;have JF:=qd (show Calls Tryz.prog 46 #[pQ b,.agg #[.int .i64 0,.int .i64 0,.int .i64 0]] W1 _ from wL HS.out.blk ⟨0,0,0⟩);have MW:=qd (fun V=>abH (E 6) V);have T9:=qd hd;clear hdn hd;go_wp2_with fail;refine HDn.out.mono ?_;rintro y w2 ⟨rfl,rfl⟩;clear HDn;go_wp2_with fail;refine JF.out.mono ?_;rintro y w2 ⟨rfl,hB2,hm2⟩;have hs2:=HS.out.Nb hB2 hm2 ⟨rfl,rfl,rfl,rfl,rfl⟩
  have hgb:gE 6∉[b]:=fun hh=>by
   have h1:=World.block_lt_of_cell? W0 _ hE6;have h2:=HS.out.b0.1;rw[List.mem_singleton.1 hh]at h1;exact absurd h1 (by show¬b<W0.heap.size;omega)
  have h6:w2.cell? ⟨gE 6,0,none⟩=some (.iface 344 (.pointer (some (E 6)))):=(World.cell?_of_block (hm2.block _ (World.block_lt_of_cell? W1 _ H6.out) hgb)).trans H6.out;unfold gE at h6;have hr2:=HR.out.mod hm2 HNr.out;obtain⟨r0,r1,r2⟩:=hr2.c3;obtain⟨f0,f1,f2⟩:=hr2.f3;have HS2:=qd hs2;clear hs2 hB2 hm2 hgb hr2 JF;go_wp2_with fail;refine(MW.out _).mono ?_;rintro y w3 ⟨rfl,rfl⟩;clear MW;have jg:=(((Mod.refl [w.heap.size+1] w2).ak (b:=w.heap.size+1) (.inl (by simp)) 0 (.int .i64 3)).ak (b:=w.heap.size+1) (.inl (by simp)) 1 (.int .u64 0)).ak (b:=w.heap.size+1) (.inl (by simp)) 2 (.int .u64 0);have hs3:=HS2.out.zW jg (fun q hq=>by rw[List.mem_singleton.1 hq];exact⟨eH.out _ (by omega),by omega⟩);have hto:=hs3.to;have HF:=qd (show∃it c' gH,(Ending.returned (.tuple #[.agg #[.int .i64 3,.int .u64 0,.int .u64 0],.nilIface]))= .returned (.tuple #[xM it,.nilIface])∧jH a.ents (jF a) c it c'∧M5 gH∧oN W0 E H Kk M I b (dQ b C GC mb its) w _ a ids (jY its id c') gv gH from⟨⟨3,0,0⟩,c,⟨0,0,0⟩,rfl,.done T9.out,⟨by decide,by decide,rfl⟩,by rw[Rv BA.out HI.out];exact hto⟩);clear jg hs3 hto h6;go_wp2;refine bodyPost_ret (v:= .tuple #[.agg #[.int .i64 3,.int .u64 0,.int .u64 0],.nilIface]) (by simp[results,Tryz.results36,go_sem,r0,r1,r2]) rfl HF.out
 |false=>
  rw[hd]at hdn;have HDn:=qd hdn;have nS:∀(fn:Fn) (first cap:Array Value) (w:World),(Instr.makeFunc fn first cap).run Tryz.prog w= .ok (.func fn first cap) w:=fun _ _ _ _=>rfl
  have Sc:=qd (XJ (S:=cb::GC) (K:=fun V it w1=>rJ W0 E H Kk M I b (dQ b C GC mb its) w C GC mb gv a ids its id cb c V it w1) 66 #[pQ w.heap.size,pQ pc] W1 (fun V=>enters_of Tryz.func66 (by kernel_rfl) rfl _ V) (fun q hq=>Nat.lt_of_lt_of_le (YO.out q hq) HB1.out.size)
   (fun V qj _=>XK (HS.out.below qj) (HX.out.mod (Mod.of_below qj []) (by simp)) (HP.out.mod (Mod.of_below qj []) (by simp)) HI.out hd IY.out))
  have UR:=qd (show w.heap.size<W1.heap.size∧w.heap.size+1<W1.heap.size from⟨HX.out.lt,HR.out.lt⟩);clear hdn hd p0;have p0:=HP.out.cell 0;simp only[List.getElem?_toArray,List.getElem?_cons_zero]at p0;go_wp2_with fail;refine HDn.out.mono ?_;rintro y w2 ⟨rfl,rfl⟩;clear HDn;go_wp2_with fail;refine Sc.out.mono ?_;rintro y w3 ⟨V,it,w2,T,rfl,qj,hmS,hst,Y0,hT⟩;have hxs:∀q,w.heap.size≤q→q<W1.heap.size→q∉cb::GC∧q∉T:=fun q h1 h2=>⟨fun hh=>by have:=YO.out q hh;omega,fun hh=>by have:=(hT q hh).1;omega⟩;have hX3:=((HX.out.mod (Mod.of_below qj []) (by simp)).mod hmS (hxs _ (Nat.le_refl _) UR.out.1).1).mod Y0 (hxs _ (Nat.le_refl _) UR.out.1).2;have mq:=((HR.out.mod (Mod.of_below qj []) (by simp)).mod hmS (hxs _ (by omega) UR.out.2).1).mod Y0 (hxs _ (by omega) UR.out.2).2
  obtain⟨c',cc,fF,q1,q2,q3,q4,q5,q6⟩:=hst.mod Y0 (fun q hq=>by
   have:=hT q hq;have:=HB1.out.size
   exact⟨eH.out q (by omega),by omega,by omega⟩)
  replace HX:=qd hX3;replace HR:=qd mq;replace HS:=qd q3;have rY:=qd q4;have jK:=qd (And.intro q1 q2);have HR4:=qd (show(w.heap.size+1)∉fF from fun hg=>(q5 _ hg).elim (fun k=>eH.out _ (by omega) (aH.2 (.inr (.inr k)))) (fun k=>by have:=UR.out.2;have:=qj.size;omega));have K9:=qd (show∀q,w3.heap.size≤q→q≠b from fun q hq e=>by have:=q3.blk.lt;omega);clear hxs hX3 mq hst Y0 hT hmS qj q1 q2 q3 q4 q5 q6 Sc p0 x0;unfold xM;go_upto_region 8 with fail;refine dB 95 #[nI it.st,nU it.key,nU it.val] ?_;rintro W4 ⟨hO,hb⟩;replace HS:=qd (HS.out.below hb);replace rY:=qd (rY.out.below hb);replace HX:=qB hb HX;replace HR:=qB hb HR;have HO:=qd hO;have Yt:=qd (show w3.heap.size∉[b]from fun hh=>K9.out _ (Nat.le_refl _) (List.mem_singleton.1 hh));obtain⟨ob,mY⟩:∃ob,ob=w3.heap.size:=⟨_,rfl⟩;rw[←mY]at HO Yt⊢;clear hO hb mY;have hcc:=rY.out;have hbk:=HS.out.blk.blk;unfold fQ.cells at hbk;have c3:=hbk.cell 3;simp only[gl]at c3;have x0:=HX.out.cell 0;simp only[List.getElem?_toArray,List.getElem?_cons_zero]at x0;have fD:=qd (zi (hcc.below (Below.refl W4.heap.size W4).drew));unfold mI at fD;clear hbk hcc;refine rT (fun(w':World)=>w'.cell? ⟨w.heap.size,0,none⟩=some (pQ b)∧w'.cell? ⟨b,3,none⟩=some (pQ C.cb)) [7] ?_;have hHeld:=(⟨x0,c3⟩:_∧_);refine vT 0 rfl ?_;refine nT 1 rfl fun K hK=> ?_;go_simp;refine kO hK ?_;clear hK K;refine vW 2 rfl ?_;refine vW 3 rfl ?_;refine nT 4 rfl fun K hK=> ?_;go_simp;refine kO hK ?_;clear hK K;refine nT 5 rfl fun K hK=> ?_;go_simp;refine(rG _ _).mono ?_
  rintro y V1 ⟨rfl,rfl⟩;go_wp2_with fail;have hHeld:=(⟨x0,c3⟩:_∧_);refine kO hK ?_;clear hK K;refine nT 6 rfl fun K hK=> ?_;go_simp;refine(fD.out).mono ?_;rintro y V2 ⟨rfl,hb⟩;replace hb:Below W4.heap.size W4 V2:=bR hb (Below.refl _ _).drew;replace HS:=qd (HS.out.below hb);replace HR:=qB hb HR;replace HO:=qB hb HO;replace x0:=aD hb x0;replace c3:=aD hb c3;clear hb fD;go_wp2_with fail;have hHeld:=(⟨x0,c3⟩:_∧_);refine kO hK ?_;clear hK K;refine nT 7 rfl fun K hK=> ?_;go_simp;have kR:=qd (show Calls Tryz.prog 46 #[pQ b,.agg #[.int .i64 cc.p,.int .i64 cc.v,.int .i64 cc.u]] V2 _ from wL HS.out.blk cc);refine(kR.out).mono ?_;rintro y V3 ⟨rfl,hwr,q3⟩;have j5:=qd (HS.out.Nb hwr q3 ⟨rfl,rfl,rfl,rfl,rfl⟩);replace HR:=qd (HR.out.mod q3 Gf.out);replace HO:=qd (HO.out.mod q3 Yt.out);clear hwr q3 kR HS x0 c3;go_wp2_with fail;refine kO hK ?_;clear hK K;refine aQ (by kernel_rfl) ?_ _;have o0:=HO.out.cell 0;have o1:=HO.out.cell 1;have o2:=HO.out.cell 2;have r0:=HR.out.cell 0;have r1:=HR.out.cell 1;have r2:=HR.out.cell 2;simp only[gl]at o0 o1 o2 r0 r1 r2;obtain⟨f0,f1,f2⟩:=HR.out.f3;have jg:=(((Mod.refl [w.heap.size+1] V3).ak (b:=w.heap.size+1) (.inl (by simp)) 0 (nI it.st)).ak (b:=w.heap.size+1) (.inl (by simp)) 1 (nU it.key)).ak (b:=w.heap.size+1) (.inl (by simp)) 2 (nU it.val)
  have hs3:=j5.out.zW jg (fun q hq=>by
   rw[List.mem_singleton.1 hq];refine⟨fun hg=> ?_,by omega⟩;have mX:=HR4.out;rcases aH.1 hg with k|k|k
   ·exact eH.out _ (by omega) (aH.2 (.inl k))
   ·rw[uY]at k;exact eH.out _ (by omega) (aH.2 (.inr (.inl k)))
   ·exact mX k)
  have hto:=hs3.to;have HF:=qd (show∃JK c' gH,(Ending.returned (.tuple #[.agg #[nI it.st,nU it.key,nU it.val],.nilIface]))= .returned (.tuple #[xM JK,.nilIface])∧jH a.ents (jF a) c JK c'∧M5 gH∧oN W0 E H Kk M I b (dQ b C GC mb its) w _ a ids (jY its id c') gv gH from⟨it,c',cc,rfl,jK.out.1,jK.out.2,hto⟩);clear jg hs3 hto;go_wp2;refine bodyPost_ret (v:= .tuple #[.agg #[nI it.st,nU it.key,nU it.val],.nilIface]) (by simp[results,Tryz.results36,go_sem,r0,r1,r2]) rfl HF.out
end Go.Proofs.YtgkeameopnpinaaGreatDoor

/-! An iterator between writes: what it has passed, and how far it is from its end. No statement of the claim. -/
namespace Go.Proofs.YtgkeameopnpinaaGreatDoor
set_option maxRecDepth 100000
set_option maxHeartbeats 4000000
open Go.RowKit bY rZ Ieee
theorem uH {m:av}{h k:Nat}(hm:m.hash<h∨(m.hash=h∧m.key≤k)):(behind h k).passed m:=by
 unfold behind gq.passed;split
 ·right;simp[bB];omega
 ·split
  ·right;simp[bB];omega
  ·left;rfl
section
variable {es : List av} {hs : List Nat} {c c' : gq} {i : Cw}
theorem jH.keeps (h:jH es hs c i c'){e:av}(he:e.hash<18446744073709551616∧e.key<18446744073709551616)(hp:c.passed e):c'.passed e:=by
 cases h with
 |done=>exact hp
 |yield hd hi m h1 h2 h3 h4 hm=>
  have hp2:bB e ⟨c.key,0,c.hash⟩=true:=hp.resolve_left (by rw[hd];simp);have hn:=hm.2.1;refine uH ?_;simp[bB]at hp2 hn;omega
 |skip hd hi h1 h2 h3 h4 hm=>
  have hp2:bB e ⟨c.key,0,c.hash⟩=true:=hp.resolve_left (by rw[hd];simp);refine uH ?_;simp[bB]at hp2;omega
theorem jH.tells (h:jH es hs c i c'):(i.st=1∧c.done=false∧∃m∈es,i.key=m.key∧i.val=m.val∧¬c.passed m∧c'.passed m)∨((i.st=2∨i.st=3)∧i.key=0∧i.val=0∧(i.st=3↔c'.done=true)∧(c.done=true→i.st=3)):=by
 cases h with
 |done hd=>exact .inr ⟨.inr rfl,rfl,rfl,by simp[hd],fun _=>rfl⟩
 |yield hd hi m h1 h2 h3 h4 hm=>
  refine .inl ⟨rfl,hd,m,(nY.1 hm.1).1,rfl,rfl,fun hp=> ?_,uH (.inr ⟨rfl,Nat.le_refl _⟩)⟩;have:=hp.resolve_left (by rw[hd];simp);rw[hm.2.1]at this;cases this
 |skip hd hi h1 h2 h3 h4 hm=>
  refine .inr ⟨by simp only;split<;>simp,rfl,rfl, ?_,fun h=>by rw[hd]at h;cases h⟩;unfold behind
  by_cases hlt:hi<18446744073709551615<;>simp[hlt]
instance (c:gq)(e:av):Decidable (c.passed e):=by unfold gq.passed;infer_instance
def xP (es:List av)(hs:List Nat)(c:gq):Nat:=if c.done=true then 0 else(es.filter fun e=> !decide (c.passed e)).length+(hs.filter fun h=>decide (c.hash≤h)).length
theorem abJ (es:List av)(hs:List Nat)(c:gq):xP es hs c≤es.length+hs.length:=by
 unfold xP;split
 ·exact Nat.zero_le _
 ·exact Nat.add_le_add (List.length_filter_le _ _) (List.length_filter_le _ _)
theorem filter_le {α:Type}{p q:α→Bool}:∀{l:List α},(∀x∈l,p x=true→q x=true)→(l.filter p).length≤(l.filter q).length
 | [],_=>Nat.le_refl _
 |x::l,h=>by
  have ih:=filter_le (l:=l) fun y hy=>h y (by simp[hy]);rw[List.filter_cons,List.filter_cons];have hx:=h x (by simp);split
  ·rename_i hp;rw[if_pos (hx hp)];simp;exact ih
  ·split
   ·simp;omega
   ·exact ih
theorem filter_lt {α:Type}{p q:α→Bool}:∀{l:List α},(∀x∈l,p x=true→q x=true)→(∃x∈l,q x=true∧p x=false)→(l.filter p).length<(l.filter q).length
 | [],_,h=>by obtain⟨_,h,_⟩:=h;cases h
 |x::l,h,hx=>by
  have hle:=filter_le (l:=l) fun y hy=>h y (by simp[hy]);rw[List.filter_cons,List.filter_cons];obtain⟨y,hy,h1,h2⟩:=hx;rcases List.mem_cons.1 hy with e|hy
  ·subst e;rw[if_neg (by rw[h2];simp),if_pos h1];simp;omega
  ·have hlt:=filter_lt (l:=l) (fun z hz=>h z (by simp[hz])) ⟨y,hy,h1,h2⟩;have hq:=h x (by simp);split
   ·rename_i hp;rw[if_pos (hq hp)];simp;exact hlt
   ·split
    ·simp;omega
    ·exact hlt
theorem jH.xP (h:jH es hs c i c')(hes:∀e∈es,e.hash<18446744073709551616∧e.key<18446744073709551616)(hne:i.st≠3):xP es hs c'<xP es hs c:=by
 have hk:=fun(e:av) (he:e∈es) (hp:c.passed e)=>h.keeps (hes e he) hp;rcases h.tells with⟨_,hd,m,h2,_,_,h3,h4⟩|⟨hst,_,_,h3,h4⟩
 ·have hm1:1≤(es.filter fun e=> !decide (c.passed e)).length:=by
   have:m∈es.filter fun e=> !decide (c.passed e):=List.mem_filter.2 ⟨h2,by simp[h3]⟩;exact List.length_pos_of_mem this
  unfold Go.Proofs.YtgkeameopnpinaaGreatDoor.xP;rw[if_neg (show¬c.done=true by rw[hd];simp)];by_cases hd':c'.done=true
  ·rw[if_pos hd'];omega
  ·rw[if_neg hd']
   have e1:=filter_lt (l:=es) (p:=fun e=> !decide (c'.passed e)) (q:=fun e=> !decide (c.passed e)) (fun e he hp=>by
    simp at hp⊢;exact fun hq=>hp (hk e he hq)) ⟨m,h2,by simp[h3],by simp[h4]⟩
   have e2:(hs.filter fun h=>decide (c'.hash≤h)).length≤(hs.filter fun h=>decide (c.hash≤h)).length:=filter_le fun x _ hx=>by
    simp at hx⊢
    cases h with
    |yield hd hi m' g1 g2 g3 g4 hm=>
     have hn:=hm.2.1;simp[bB]at hn
     have:m'.hash≤(behind m'.hash m'.key).hash:=by
      unfold behind;split
      ·exact Nat.le_refl _
      ·split
       ·exact Nat.le_succ _
       ·rename_i a b;exact absurd (by unfold behind;rw[if_neg a,if_neg b]) hd'
     omega
    |done hd2=>rw[hd]at hd2;cases hd2
    |skip hd2 x g1 g2 g3=>
     have:x≤(behind x 18446744073709551615).hash:=by
      unfold behind;rw[if_neg (by omega)];split
      ·exact Nat.le_succ _
      ·rename_i b;exact absurd (by unfold behind;rw[if_neg (by omega),if_neg b]) hd'
     omega
   omega
 ·have hd:c.done=false:=by
   cases hd:c.done with
   |false=>rfl
   |true=>exact absurd (h4 hd) hne
  have hd':¬c'.done=true:=fun e=>hne (h3.2 e);unfold Go.Proofs.YtgkeameopnpinaaGreatDoor.xP;rw[if_neg (show¬c.done=true by rw[hd];simp),if_neg hd']
  have e1:(es.filter fun e=> !decide (c'.passed e)).length≤(es.filter fun e=> !decide (c.passed e)).length:=filter_le fun e he hp=>by
   simp at hp⊢;exact fun hq=>hp (hk e he hq)
  have e2:(hs.filter fun h=>decide (c'.hash≤h)).length<(hs.filter fun h=>decide (c.hash≤h)).length:=by
   cases h with
   |done hd2=>rw[hd]at hd2;cases hd2
   |yield hd2 x m g1 g2 g3 g4 hm=>
    rcases hst with k|k<;>cases k
   |skip hd2 x g1 g2 g3 g4 hm=>
    have hx:x<18446744073709551615:=by
     by_cases hlt:x<18446744073709551615
     ·exact hlt
     ·exact absurd (by unfold behind;rw[if_neg (by omega),if_neg hlt]) hd'
    have hb:(behind x 18446744073709551615).hash=x+1:=by
     unfold behind;rw[if_neg (by omega),if_pos hx]
    rw[hb];exact filter_lt (fun y _ hy=>by simp at hy⊢;omega) ⟨x,g2,by simpa using g1,by simp⟩
  omega
end
end Go.Proofs.YtgkeameopnpinaaGreatDoor

/-! A map's snapshot by its contract: all pairs, by keys, rising. No statement of the claim. -/
namespace Go.Proofs.YtgkeameopnpinaaGreatDoor
set_option maxRecDepth 100000
set_option maxHeartbeats 4000000
open Go.RowKit bY rZ Ieee
variable {es out : List av} {G hs : List Nat} {b' n sz : Nat} {c : gq} {t : TypeId} {v : Value} {xs : List Value}
def qI (e:av):Nat×Nat:=(e.key,e.val)
theorem Rw (hn:(es.map av.key).Nodup)(ho:out.Nodup)(hs:∀e∈out,e∈es):((out.map qI).map Prod.fst).Nodup:=by
 rw[List.map_map];show(out.map av.key).Nodup;unfold List.Nodup;rw[List.pairwise_map];exact ho.imp_of_mem fun h1 h2 hne hk=>hne (Ru hn _ (hs _ h1) _ (hs _ h2) hk)
theorem Z7 (h:Way es hs n out c):out.length≤es.length:=Cv h.qH.nodup fun e he=>((h.mem e).1 he).1
theorem Nr (hn:(es.map av.key).Nodup)(h:Way es hs n out c):((out.map qI).map Prod.fst).Nodup:=Rw hn h.qH.nodup fun e he=>((h.mem e).1 he).1
theorem XL {m:av}(hn:(es.map av.key).Nodup)(h:Way es hs n (out++[m]) c):(jw (out.map qI)).length<es.length∧qE (jw (out.map qI)) m.key=false:=by
 have h1:=Z7 h;have h2:=Nr hn h;rw[List.map_append,List.map_append,List.nodup_append]at h2;have h3:=Ni h2.1;rw[List.length_append,List.length_singleton]at h1;refine⟨by rw[h3.2,List.length_map];omega, ?_⟩;rw[Pz (Ab _)]
 cases hg:ny (jw (out.map qI)) m.key with
 |none=>rfl
 |some v=>
  have h4:=(h3.1 _).1 ((jU (Ab _)).1 hg);exact absurd rfl (h2.2.2 m.key (List.mem_map_of_mem (f:=Prod.fst) h4) m.key (by simp[qI]))
theorem Z8 (hn:(es.map av.key).Nodup)(h:Way es hs n out c)(hd:c.done=true):(∀k,ny (jw (out.map qI)) k=oF es k)∧(jw (out.map qI)).length=es.length:=by
 have h1:=h.adq hn hd;have h3:=Ni (Nr hn h);refine⟨fun k=> ?_,by rw[h3.2,List.length_map,h1.length_eq]⟩;unfold oF
 cases hl:look es k with
 |none=>
  rw[Option.map_none,qF];intro p hp hk;obtain⟨e,he,rfl⟩:=List.mem_map.1 ((h3.1 p).1 hp);have:=fP hn (h1.mem_iff.1 he);rw[show e.key=k from hk,hl]at this;cases this
 |some e=>
  obtain⟨he,rfl⟩:=mM hl;exact(jU (Ab _)).2 ((h3.1 _).2 (List.mem_map.2 ⟨e,h1.mem_iff.2 he,rfl⟩))
theorem Z9 {W0:World}{E:Nat→Addr}{H:Nat→Nat}{Kk M I b:Nat}{w:World}{a:Pool}{ids:List Nat}{its:List It}{gv:Nat}{eP:aZ}(h:lV W0 E H Kk M I b G w a ids its gv eP):∀e∈a.ents,e.hash<18446744073709551616∧e.key<18446744073709551616:=fun e he=>by
 obtain⟨C,GC,mb,h1,_⟩:=h;obtain⟨i,N,g1,g2⟩:=lg.1 he;have h3:=((h1.core.facts.2.2.2.2.2.1 i N g1).hash e g2).1;exact⟨h3.h64,h3.k64⟩
theorem EG {w w':World}{S:List Nat}{base:Nat}(h:w.ownsRow base t sz v n xs)(hm:Mod S w w')(hS:∀q∈v.ownBlock.toList,q∉S):w'.ownsRow base t sz v n xs:=by
 refine⟨h.1, ?_⟩;rcases h.2 with k|⟨g,cap,cur,rfl,k2,k3,k4⟩
 ·exact .inl k
 ·refine .inr ⟨g,cap,cur,rfl,k2, ?_,k4⟩;rw[hm.block g (Array.getElem?_eq_some_iff.1 k3).1 (hS g (by simp[Value.ownBlock]))];exact k3
theorem Ad {w:World}{b:Nat}(h:w.ownsRow b t sz v n xs)(hb:b'≤b):w.ownsRow b' t sz v n xs:=
 ⟨h.1,h.2.imp id fun⟨g,cap,cur,h1,h2,h3⟩=>⟨g,cap,cur,h1,Nat.le_trans hb h2,h3⟩⟩
theorem aac {b fb most:Nat}{w:World}{F:List Nat}{l:PL}(h:r9 b w fb most F l)(hb:b'≤b):r9 b' w fb most F l:=by
 obtain⟨v,h1,h2,h3,h4,h5⟩:=h;exact⟨v,h1,Ad h2 hb,h3,Nat.le_trans hb h4,h5⟩
structure Two (W0:World)(E:Nat→Addr)(H:Nat→Nat)(K M I b:Nat)(w0 w:World)(G0 F:List Nat)(a:Pool)(ids:List Nat)(its:List It)(gv:Nat)(eP:aZ)(fb most:Nat)(F2:List Nat)(l:PL):Prop where
 map:lV W0 E H K M I b F w a ids its gv eP
 fn:r9 w0.heap.size w fb most F2 l
 apart:∀q∈F2,q∉F
 from_:∀q∈F,q∈G0∨w0.heap.size≤q
 mod:Mod G0 w0 w
 base:W0.heap.size≤w0.heap.size
section
variable {W0 : World} {E : Nat → Addr} {H : Nat → Nat} {K M I b : Nat} {w0 w w' : World} {G0 F F2 : List Nat} {a a' : Pool} {ids aJ : List Nat} {its oM : List It} {gv oV : Nat} {eP gH : aZ} {fb most : Nat} {l l' : PL}
theorem Two.step (h:Two W0 E H K M I b w0 w G0 F a ids its gv eP fb most F2 l)(hr:oN W0 E H K M I b F w w' a' aJ oM oV gH):∃F',Two W0 E H K M I b w0 w' G0 F' a' aJ oM oV gH fb most F2 l:=by
 obtain⟨F',h1,h2,h3⟩:=hr;have hsz:=h.mod.size;refine⟨F',h1,h.fn.mod h3 fun q hq hf=>h.apart q hf hq,fun q hq hf=> ?_,fun q hq=> ?_,h.mod.trans h3 (fun _ hk _=>hk) (fun q hq hl=>(h.from_ q hq).elim id fun k=>absurd hl (by omega)),h.base⟩
 ·rcases h2 q hf with k|k
  ·exact h.apart q hq k
  ·have:=(h.fn.fA q hq).1;omega
 ·rcases h2 q hq with k|k
  ·exact h.from_ q k
  ·exact .inr (by omega)
theorem Two.put (h:Two W0 E H K M I b w0 w G0 F a ids its gv eP fb most F2 l)(hr:XB w0.heap.size w w' fb most F2 l'):∃F',Two W0 E H K M I b w0 w' G0 F a ids its gv eP fb most F' l':=by
 obtain⟨F',h1,h2,h3⟩:=hr;have hsz:=h.mod.size;refine⟨F',h.map.mod h3 (fun q hq=>⟨h.apart q hq,Nat.le_trans h.base (h.fn.fA q hq).2⟩),h1,fun q hq hf=> ?_,h.from_,h.mod.trans h3 (fun _ hk _=>hk) (fun q hq hl=>absurd (h.fn.fA q hq).2 (by omega)),h.base⟩;rcases h2 q hq with k|k
 ·exact h.apart q k hf
 ·have:=(h.map.facts.1 q hf).1;omega
theorem Two.below (h:Two W0 E H K M I b w0 w G0 F a ids its gv eP fb most F2 l)(hb:Below w.heap.size w w'):Two W0 E H K M I b w0 w' G0 F a ids its gv eP fb most F2 l:=
 ⟨h.map.below hb,h.fn.below hb,h.apart,h.from_,h.mod.then (Mod.of_below hb _),h.base⟩
end
theorem aad {W0:World}{E:Nat→Addr}{H:Nat→Nat}{K M I b:Nat}{w:World}{R:Nat→Option Nat}{gv:Nat}(h:kg W0 E H K M I b G w R n [] gv)(hI:1≤I)(hg:gv≤100000)(h6:dV E W0 6):
  Calls Tryz.prog 18 #[pQ b] w fun y w'=>∃v l G',y= .returned (.tuple #[v,.nilIface])∧jG l∧(∀k,ny l k=R k)∧w'.ownsRow w.heap.size 61 2 v l.length (l.flatMap dW)∧(∀q∈v.ownBlock.toList,q∉G')∧kg W0 E H K M I b G' w' R n [] (gv+1)∧(∀q∈G',q∈G∨w.heap.size≤q)∧Mod G w w':=by
 obtain⟨a,ids,adr,hR,rfl,rfl⟩:=h;obtain⟨hlts,hnd,hlM,hM,h32,_,_,_,_,abK⟩:=hR.facts;have hop:=ZP hR (by simp;omega) hg;simp only[List.nil_append]at hop;have La:=qd hop;have BA:=qd hnd;have abL:=qd (Z9 hR);have H6:=qd h6;have HW0:=qd abK.size;have Rx:=qd (show a.ents.length≤192 by omega);have mh:=qd (show a.ents.length+(jF a).length≤224 from by unfold jF;rw[List.length_map];omega);have afh:=qd (abJ a.ents (jF a) ⟨0,0,false⟩);clear hop hR hlts hnd hlM hM h32 abK hg h6 hI;go_in;go_wp2_with fail;refine La.out.mono ?_;rintro y w1 ⟨cb,rfl,F1,hA1,hs1,hm1⟩;have qo:=qd (abn hA1);have mD:=qd (abA a.ents.length w1);obtain⟨n0,hn0⟩:∃n0,n0=a.ents.length:=⟨_,rfl⟩;rw[←hn0]at qo mD;have LD:=qd hn0;have HX:=qd (And.intro hA1 (And.intro hs1 hm1));clear hA1 hs1 hm1 La hn0;go_wp2_with fail;refine qo.out.mono ?_;rintro y wq ⟨rfl,rfl⟩;go_wp2_with fail;refine mD.out.mono ?_;rintro y w2 ⟨rfl,hf2,hb2⟩;obtain⟨fb,l9⟩:∃fb,fb=w1.heap.size:=⟨_,rfl⟩
 have HT:=qd (show Two W0 E H K M I b w w2 G F1 a ids [⟨gv+1,cb,⟨0,0,false⟩⟩] (gv+1) adr fb n0 [fb] (jw (([]:List av).map qI))from by
  obtain⟨g1,g2,g3⟩:=HX.out;have hsz:=g3.size;rw[l9]
  exact⟨g1.below hb2,aac hf2 hsz,fun q hq hF=>by have:=(g1.facts.1 q hF).1;simp at hq;omega,g2,g3.then (Mod.of_below hb2 _),HW0.out⟩)
 rw[←l9];have HW:=qd (Way.start a.ents (jF a));clear hf2 hb2 l9 HX qo mD;go_wp2;go_loopg [7] (xP a.ents (jF a) ⟨0,0,false⟩) (fun k _ wr=>∃(n1:Nat) (F:List Nat) (c:gq) (eP:aZ) (out:List av) (F2:List Nat),k=xP a.ents (jF a) c∧Hid (Two W0 E H K M I b w wr G F a ids [⟨gv+1,cb,c⟩] (gv+1) eP fb n0 F2 (jw (out.map qI)))∧Hid (Way a.ents (jF a) n1 out c))
 case atStart=>exact⟨0,F1,_,_,[],[fb],rfl,HT,HW⟩
 case round=>
  clear HT HW;obtain⟨n1,F,c,eP,out,F2,hk,HT,HW⟩:=hrel;have jK:=Z6 HT.out.map H6.out (id:=gv+1) (cb:=cb) (c:=c) (by simp) HW.out.ok;unfold xM at jK;replace jK:=qd jK;have HK:=qd hk;clear hk;go_wp2_with fail;refine jK.out.mono ?_;rintro y w5 ⟨it,c',gH,rfl,hns,-,hrt⟩;obtain⟨out',hw',hor⟩:=HW.out.next BA.out abL.out hns;have wZ:=qd (fun hst:it.st≠3=>hns.xP abL.out hst);obtain⟨F',l7⟩:=HT.out.step hrt;have Ye:=qd (show Two W0 E H K M I b w w5 G F' a ids [⟨gv+1,cb,c'⟩] (gv+1) gH fb n0 F2 (jw (out.map qI))from by simpa[jY]using l7);have Y1:=qd hw';have HOr:=qd hor;obtain⟨st,ky,vl⟩:=it;clear l7 hrt hns hw' hor jK HT HW;go_upto_region 8 with fail;refine dA (F:=fun v=>aj v w5.heap.size 95 #[nI st,nU ky,nU vl]∧Below w5.heap.size w5 v) ⟨aj.new w5 95 #[nI st,nU ky,nU vl],(Below.refl w5.heap.size w5).alloc (Nat.le_refl _) _⟩ ?_;rintro w6 ⟨nk,hb6⟩;obtain⟨bx,hbx⟩:∃bx,bx=w5.heap.size:=⟨_,rfl⟩;rw[←hbx]at nk⊢;obtain⟨x0,x1,x2⟩:=nk.c3;have Gn:=qd (Ye.out.below hb6);clear nk hb6 hbx Ye;rcases HOr.out with⟨hst,_,m,_,hout,_,_,hky,hvl,_⟩|⟨hst,hout,_,_,h23,hdn⟩
  ·try simp only at hst hky hvl
   subst hst;subst hky;subst hvl;subst hout;have HK':=qd (show xP a.ents (jF a) c'<gk from by rw[HK.out];exact wZ.out (by decide));have hroom:=XL BA.out Y1.out
   have hlen:(jw (out.map qI)).length≤192:=by have:=hroom.1;have:=Rx.out;omega
   have Tv:=qd (abB Gn.out.fn (by omega) m.key m.val (fun _=>by rw[LD.out];exact hroom.1) (by rw[LD.out];have:=Rx.out;omega));clear wZ HOr hroom hlen;go_wp2_with fail;refine Tv.out.mono ?_;rintro y w7 ⟨rfl,hto⟩;obtain⟨F3,hT7⟩:=Gn.out.put hto;have xQ:=qd (show Two W0 E H K M I b w w7 G F' a ids [⟨gv+1,cb,c'⟩] (gv+1) gH fb n0 F3 (jw ((out++[m]).map qI))from by rw[List.map_append,List.map_singleton,UH];exact hT7);clear hto hT7 Gn Tv x0 x1 x2;go_wp2;go_roundg (xP a.ents (jF a) c')
   case measure=>exact HK'.out
   case rel=>exact⟨n1+1,F',c',gH,out++[m],F3,rfl,xQ,Y1⟩
  ·try simp only at hst h23 hdn
   subst hout;rcases h23 with rfl|rfl
   ·have HK':=qd (show xP a.ents (jF a) c'<gk from by rw[HK.out];exact wZ.out (by decide));clear wZ HOr hdn hst;go_wp2;go_roundg (xP a.ents (jF a) c')
    case measure=>exact HK'.out
    case rel=>exact⟨n1+1,F',c',gH,out',F2,rfl,Gn,Y1⟩
   ·have hend:=Z8 BA.out Y1.out (hdn.1 rfl);have ads:=qd hend;have pX:=qd (XE Gn.out.fn (by rw[hend.2];have:=Rx.out;omega));clear wZ HOr hdn hst hend;go_wp2_with fail;refine pX.out.mono ?_;rintro y w7 ⟨v',rfl,FD,FE⟩;obtain⟨A',c7,rfl⟩:=bE FD;have xQ:=qd (Gn.out.below FE);have AJ:=qd (And.intro FD (And.intro FE.size (show∀q∈F',q<w6.heap.size from fun q hq=>(Gn.out.map.facts.1 q hq).1)));have wW:=qd (Xy xQ.out.map (j:=0) rfl);have adt:=Gn.out.mod.size;clear FD FE pX Gn x0 x1 x2;go_wp2_with fail;refine wW.out.mono ?_;rintro y w8 ⟨rfl,F8,hA8,tJ,hm8⟩;have hown:∀q∈(Value.slice A' (jw (out'.map qI)).length c7).ownBlock.toList,w6.heap.size≤q∧q<w7.heap.size:=fun q hq=>AJ.out.1.lt q (by simpa using hq)
    have HFin:=qd (show w8.ownsRow w.heap.size 61 2 (.slice A' (jw (out'.map qI)).length c7) (jw (out'.map qI)).length ((jw (out'.map qI)).flatMap dW)∧(∀q∈(Value.slice A' (jw (out'.map qI)).length c7).ownBlock.toList,q∉F8)∧kg W0 E H K M I b F8 w8 (oF a.ents) a.ents.length [] (gv+1)∧(∀q∈F8,q∈G∨w.heap.size≤q)∧Mod G w w8 from by
     refine⟨EG (Ad AJ.out.1 adt) hm8 (fun q hq hF=> ?_),fun q hq hF=> ?_,⟨a,ids,gH,by simpa using hA8,rfl,rfl⟩,fun q hq=> ?_,xQ.out.mod.trans hm8 (fun _ hk _=>hk) (fun q hq hl=>(xQ.out.from_ q hq).elim id (fun k=>absurd hl (by omega)))⟩
     ·have:=hown q hq;have:=AJ.out.2.2 q hF;omega
     ·have h1:=hown q hq;rcases tJ q hF with k|k
      ·have:=AJ.out.2.2 q k;omega
      ·omega
     ·rcases tJ q hq with k|k
      ·exact xQ.out.from_ q k
      ·exact .inr (by have:=xQ.out.mod.size;omega))
    clear hA8 tJ hm8 hown wW xQ AJ;go_wp2;refine bodyPost_ret (v:= .tuple #[.slice A' (jw (out'.map qI)).length c7,.nilIface]) (by simp[results,Tryz.results18,go_sem]) rfl ⟨_,jw (out'.map qI),F8,rfl,Ab _,ads.out.1,HFin.out⟩
end Go.Proofs.YtgkeameopnpinaaGreatDoor

/-! A snapshot's hashes, and that no key is there twice, by their contracts. No statement of the claim. -/
namespace Go.Proofs.YtgkeameopnpinaaGreatDoor
set_option maxRecDepth 100000
set_option maxHeartbeats 4000000
open Go.RowKit bY rZ Ieee
def Ae (w:World):Prop:=∀k,k≤5→∃s:ByteArray,w.cell? ⟨4,k,none⟩=some (.string s)∧s.toList.isEmpty=false
theorem Ae.below {w w':World}(h:Ae w)(hb:Below w.heap.size w w'):Ae w':=fun k hk=>by
 obtain⟨s,h1,h2⟩:=h k hk;exact⟨s,aD hb h1,h2⟩
theorem XM (k:Nat)(hk:k≤5)(s:ByteArray)(w:World)(hs:w.cell? ⟨4,k,none⟩=some (.string s)):
  Calls Tryz.prog 12 #[nI k] w fun y w'=>y= .returned (.string s)∧w=w':=by
 have h1:¬(k:Int)<0:=by omega
 have h2:¬(5:Int)<(k:Int):=by omega
 have h3:(0:Int)≤(k:Int):=by omega
 have h4:(k:Int)<6:=by omega
 go_in;go_wp2;go_ret;exact⟨rfl,rfl⟩
def afi (kind:Nat)(p:Nat×Nat):av:=⟨p.1,p.2,lq kind p.1⟩
end Go.Proofs.YtgkeameopnpinaaGreatDoor

/-! The plain law of floats below 2 to the 50th: what is exact, and what rounding to the nearest whole number gives. No program in sight. -/
namespace Go.Proofs.YtgkeameopnpinaaGreatDoor.lH
set_option maxRecDepth 100000
set_option maxHeartbeats 4000000
open Go.RowKit bY rZ Ieee
variable {m w : Nat}
theorem Gp:double.signWeight=9223372036854775808:=by decide
theorem EH:double.binade=4503599627370496:=by decide
theorem KE:double.infRung=9218868437227405312:=by decide
theorem aae:double.leastPlace= -1074:=by decide
theorem d_frac:double.fractionBits=52:=rfl
theorem pow_of_log (h:0<m):2^m.log2≤m∧m<2^(m.log2+1):=⟨Nat.log2_self_le (by omega),Nat.lt_log2_self⟩
theorem log_le {k:Nat}(h0:0<m)(h:m<2^(k+1)):m.log2≤k:=by
 have:=(Nat.log2_lt (by omega)).2 h;omega
theorem log_mul_pow (m z:Nat)(h:0<m):(m*2^z).log2=m.log2+z:=by
 have hp:=Nat.two_pow_pos z;apply Nat.le_antisymm
 ·refine log_le (Nat.mul_pos h hp) ?_;rw[show m.log2+z+1=(m.log2+1)+z by omega,Nat.pow_add];exact Nat.mul_lt_mul_of_pos_right (pow_of_log h).2 hp
 ·rw[Nat.le_log2 (by have:=Nat.mul_pos h hp;omega),Nat.pow_add];exact Nat.mul_le_mul_right _ (pow_of_log h).1
theorem cut_exact (way:Toward)(s:Bool)(m d:Nat)(h:d≤(m*2^d).log2+2):way.cut s (m*2^d) d=m:=by
 unfold Toward.cut;rw[Nat.min_eq_left h]
 have hg:(1:Nat)<<<d=2^d:=by rw[Nat.shiftLeft_eq,Nat.one_mul]
 have hp:=Nat.two_pow_pos d;simp only[hg];rw[Nat.mul_div_cancel _ hp,Nat.mul_mod_left]
 cases way<;>simp
def abM (w:Nat):Nat:=if w<4503599627370496 then w else 4503599627370496+w % 4503599627370496
def Ry (w:Nat):Nat:=if w<4503599627370496 then 1074 else 1075-w/4503599627370496
def Low (w:Nat):Prop:=w≤4832362400168542208
def whole (w:Nat):Nat:=abM w/2^Ry w
def uV (w:Nat):Nat:=abM w % 2^Ry w
def rounded (w:Nat):Nat:=whole w+if 2^Ry w≤2*uV w then 1 else 0
def adG (w:Nat):Nat:=
 if w/4503599627370496<1023 then(if w/4503599627370496=1022 then 4607182418800017408 else 0)
 else(w+2^(51-(w/4503599627370496-1023)))/2^(52-(w/4503599627370496-1023))*2^(52-(w/4503599627370496-1023))
end Go.Proofs.YtgkeameopnpinaaGreatDoor.lH
