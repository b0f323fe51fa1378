/- A map's Next by its contract. No statement of the claim. -/
import Derived.Test.YtgiaobmcbbfmnaaGreatDoorRmF
import Derived.Test.YtgiaobmcbbfmnaaGreatDoorKit2
import Derived.Test.YtgiaobmcbbfmnaaGreatDoorSq
import Derived.Test.YtgiaobmcbbfmnaaGreatDoorSqT
namespace Go.Proofs.YtgiaobmcbbfmnaaGreatDoor
set_option maxRecDepth 100000
set_option maxHeartbeats 4000000
open Go.RowKit dw
theorem aad (d:Nat)(fn:Fn)(a b:Array Value)(w:World):(Op.equalIn (d+1) 138 (.func fn a b) .nilFunc).run Tryz.prog w= .ok false w:=by simp[Op.equalIn,run_underlying Tryz.underlying138]
theorem ac4 (fn:Fn)(a b:Array Value)(w:World):(Op.equal 138 (.func fn a b) .nilFunc).run Tryz.prog w= .ok false w:=aad 9999 fn a b w
theorem abP (d:Nat)(x:TypeId)(v:Value)(w:World):(Op.equalIn (d+1) 27 .nilIface (.iface x v)).run Tryz.prog w= .ok false w:=by simp[Op.equalIn,run_underlying Tryz.underlying27]
theorem adD (x:TypeId)(v:Value)(w:World):(Op.equal 27 .nilIface (.iface x v)).run Tryz.prog w= .ok false w:=abP 9999 x v w
theorem ac5 (a:Addr)(w:World):Calls Tryz.prog 35 #[.nilIface,.iface 379 (.pointer (some a))] w fun e w'=>e= .returned (.bool false)∧w=w':=by
 have hq:∀W:World,(binOp .eql 27 .nilIface (.iface 379 (.pointer (some a)))).run Tryz.prog W= .ok (.bool false) W:=fun W=>by
  simp only[binOp];simp[adD]
 go_in;go_wp2;go_ret;exact⟨rfl,rfl⟩
theorem abQ {S:List Nat}{K:En→World→Prop}(G:FuncId)(cap:Array Value){V:World}{fb ob eb:Nat}(hG:∀W:World,(callFunc G cap).run Tryz.prog W= .ok (.enter G cap) W)(hF:aj V fb 138 #[.func (.func G) #[] cap])(hO:aj V ob 92 #[.int .i64 0,.int .u64 0,.int .u64 0])(hE:aj V eb 27 #[.nilIface])(hN:ob∉S∧eb∉S)(hoe:ob≠eb)
  (hc:Calls Tryz.prog G cap V fun y w1=>∃it,y= .returned (.tuple #[zy it,.nilIface])∧Mod S V w1∧K it w1):
  Calls Tryz.prog 89 #[.pointer (some ⟨fb,0,none⟩),.pointer (some ⟨ob,0,none⟩),.pointer (some ⟨eb,0,none⟩)] V fun y w'=>y= .returned undef∧∃it w1,K it w1∧Mod S V w1∧Mod [ob] w1 w'∧aj w' ob 92 #[.int .i64 (it.st:Int),.int .u64 (it.key:Int),.int .u64 (it.val:Int)]∧aj w' eb 27 #[.nilIface]:=by
 have HO:=qd hO;have HE:=qd hE;have HN:=qd hN;have HC:=qd hc;have x0:=hF.cell 0;simp only[List.getElem?_toArray,List.getElem?_cons_zero]at x0;have hgg:=hG;have HOE:=qd hoe;clear hF hO hE hN hc hoe;go_in;go_wp2_with fail;refine HC.out.mono ?_;rintro y w1 ⟨it,rfl,hm,hk⟩;have y7:=HO.out.mod hm HN.out.1;have hE1:=HE.out.mod hm HN.out.2;have o0:=y7.cell 0;have o1:=y7.cell 1;have o2:=y7.cell 2;have e0:=hE1.cell 0;simp only[gl]at o0 o1 o2 e0;obtain⟨of0,of1,of2⟩:=y7.f3;have ef0:=hE1.frozen 0;have hid:=hE1.Bo (i:=0) (u:= .nilIface) rfl;have hn:=((y7.ak 0 (.int .i64 (it.st:Int))).ak 1 (.int .u64 (it.key:Int))).ak 2 (.int .u64 (it.val:Int));have hm2:=(((Mod.refl [ob] w1).sl 0 (.int .i64 (it.st:Int))).sl 1 (.int .u64 (it.key:Int))).sl 2 (.int .u64 (it.val:Int));simp only[pt]at hn;have hE2:=hE1.mod hm2 (fun hh=>HOE.out (List.mem_singleton.1 hh).symm);have ac6:=hE2.Bo (i:=0) (u:= .nilIface) rfl;have HF:=qd (show∃it w2,K it w2∧Mod S V w2∧Mod [ob] w2 _∧aj _ ob 92 #[.int .i64 (it.st:Int),.int .u64 (it.key:Int),.int .u64 (it.val:Int)]∧aj _ eb 27 #[.nilIface]from⟨it,w1,hk,hm,hm2,hn,hE2⟩);have hne1:=HOE.out;have hne2:eb≠ob:=fun e=>hne1 e.symm;clear e0 ef0;have e0:=hE1.cell 0;simp only[gl]at e0;have ef0:=hE1.frozen 0;have HI:=qd ac6;clear hm hk y7 hE1 hid hn hm2 hE2 ac6;unfold zy;go_wp2;go_end0;rw[HI.out];exact⟨rfl,HF.out⟩
theorem aae {S:List Nat}{K:World→En→World→Prop}(G:FuncId)(cap:Array Value)(w:World)(hG:∀W:World,(callFunc G cap).run Tryz.prog W= .ok (.enter G cap) W)(hS:∀q∈S,q<w.heap.size)
  (hc:∀V,Below w.heap.size w V→w.heap.size+5≤V.heap.size→Calls Tryz.prog G cap V fun y w1=>∃it,y= .returned (.tuple #[zy it,.nilIface])∧Mod S V w1∧K V it w1):
  Calls Tryz.prog 61 #[.func (.func G) #[] cap] w fun y w'=>∃V it w1 T,y= .returned (.tuple #[zy it,.nilIface])∧Below w.heap.size w V∧Mod S V w1∧K V it w1∧Mod T w1 w'∧∀q∈T,w.heap.size≤q∧q<V.heap.size:=by
 obtain⟨W,hW,hB,hBf,hBr,hBo,hBn,Qg⟩:=qX5 w 138 #[.func (.func G) #[] cap] 92 #[.int .i64 0,.int .u64 0,.int .u64 0] 92 #[.int .i64 0,.int .u64 0,.int .u64 0] 92 #[.int .i64 0,.int .u64 0,.int .u64 0] 27 #[.nilIface];have hsz:=hB.size;have HW:=qd hW;have HB:=qd hB;have hWl:=Qg.lt;have HBf:=qd hBf;have Qk:=qd hBr;have P9:=qd hBo;have Au:=qd Qg;have HS:=qd hS;have HC:=qd hc;clear hW hB hBf hBr hBo hBn Qg hS hc;have pX:∀(fn:Fn) (first cap:Array Value) (w:World),(Instr.makeFunc fn first cap).run Tryz.prog w= .ok (.func fn first cap) w:=fun _ _ _ _=>rfl
 have hq:∀W:World,(binOp .eql 138 (.func (.func G) #[] cap) .nilFunc).run Tryz.prog W= .ok (.bool false) W:=fun W=>by
  simp only[binOp];simp[ac4]
 have yS:=(Below.refl W.heap.size W).alloc (Nat.le_refl _) (.cells #[.nilIface] 27);have rM:Below w.heap.size w (W.alloc (.cells #[.nilIface] 27)):=bQ yS HB.out
 have hlV:w.heap.size+5≤(W.alloc (.cells #[.nilIface] 27)).heap.size:=by simp;omega
 have HNS:=qd (show∀q,w.heap.size≤q→q∉S from fun q hq hs=>by have:=HS.out q hs;omega)
 have yT:=qd (Jo (S:=(w.heap.size+1+1)::S) (K:=fun w'=>∃it w1,K (W.alloc (.cells #[.nilIface] 27)) it w1∧Mod S (W.alloc (.cells #[.nilIface] 27)) w1∧Mod [(w.heap.size+1+1)] w1 w'∧aj w' (w.heap.size+1+1) 92 #[.int .i64 (it.st:Int),.int .u64 (it.key:Int),.int .u64 (it.val:Int)]∧aj w' (w.heap.size+1+1+1+1) 27 #[.nilIface]) 89 #[.pointer (some ⟨w.heap.size,0,none⟩),.pointer (some ⟨(w.heap.size+1+1),0,none⟩),.pointer (some ⟨(w.heap.size+1+1+1+1),0,none⟩)] W (fun V=>enters_of Tryz.func89 (by kernel_rfl) rfl _ V)
  (fun hg=>by
   rcases List.mem_cons.1 hg with k|k
   ·omega
   ·exact HNS.out _ (by omega) k)
  ((abQ G cap hG (HBf.out.mod (Mod.of_below yS []) (by simp)) (P9.out.mod (Mod.of_below yS []) (by simp)) (Au.out.mod (Mod.of_below yS []) (by simp)) ⟨HNS.out _ (by omega),HNS.out _ (by omega)⟩ (by omega) (HC.out _ rM hlV)).mono (fun y w1 hh=>⟨hh.1,(by
   obtain⟨it,w2,k1,k2,k3,_,_⟩:=hh.2
   exact k2.trans k3 (fun q hq _=>List.mem_cons_of_mem _ hq) (fun q hq _=>by rw[List.mem_singleton.1 hq];simp)),hh.2⟩)))
 have HV:=qd (And.intro rM hlV);have LY:=qd yS;have x0:=HBf.out.cell 0;simp only[List.getElem?_toArray,List.getElem?_cons_zero]at x0;clear yS rM hlV;go_in;go_upto_region 3 with fail;rw[←HW.out];go_wp2_with fail;refine yT.out.mono ?_;rintro y w1 ⟨rfl,hm1,it,w2,hk,hm2,kI,ho,he⟩
 have hr1:=(Qk.out.mod (Mod.of_below LY.out []) (by simp)).mod hm1 (fun hg=>by
  rcases List.mem_cons.1 hg with k|k
  ·omega
  ·exact HNS.out _ (by omega) k)
 have r0:=hr1.cell 0;have r1:=hr1.cell 1;have r2:=hr1.cell 2;have o0:=ho.cell 0;have o1:=ho.cell 1;have o2:=ho.cell 2;have e0:=he.cell 0;simp only[gl]at r0 r1 r2 o0 o1 o2 e0;obtain⟨f0,f1,f2⟩:=hr1.f3;have jq:=(((Mod.refl [(w.heap.size+1)] w1).sl 0 (.int .i64 (it.st:Int))).sl 1 (.int .u64 (it.key:Int))).sl 2 (.int .u64 (it.val:Int));have hmt:=kI.trans jq (U:=[(w.heap.size+1),(w.heap.size+1+1)]) (fun q hq _=>by simp at hq⊢;exact .inr hq) (fun q hq _=>by simp at hq⊢;exact .inl hq)
 have HF:=qd (show∃V L6 w1 T,(Ending.returned (.tuple #[.agg #[.int .i64 (it.st:Int),.int .u64 (it.key:Int),.int .u64 (it.val:Int)],.nilIface]))= .returned (.tuple #[zy L6,.nilIface])∧Below w.heap.size w V∧Mod S V w1∧K V L6 w1∧Mod T w1 _∧∀q∈T,w.heap.size≤q∧q<V.heap.size from⟨_,it,w2,_,rfl,HV.out.1,hm2,hk,hmt,fun q hq=>by
  have:=HV.out.2;simp at hq
  rcases hq with k|k<;>omega⟩)
 clear hm1 hk hm2 kI ho he hr1 jq hmt yT;go_wp2;refine bodyPost_ret (v:= .tuple #[.agg #[.int .i64 (it.st:Int),.int .u64 (it.key:Int),.int .u64 (it.val:Int)],.nilIface]) (by simp[results,Tryz.results61,go_sem,r0,r1,r2]) rfl HF.out
section
variable {its : List It} {I Kk M b cb gv id : Nat} {c : gy} {W0 : World} {E : Nat → Addr} {H : Nat → Nat} {a : Pool} {ids : List Nat}
theorem UH (hn:(its.map It.id).Nodup)(hi:⟨id,cb,c⟩∈its):kG its id c=its:=by
 unfold kG
 conv=>rhs;rw[←List.map_id its]
 apply List.map_congr_left;intro i hi';by_cases h:i.id=id
 ·rw[if_pos h,yR hn hi' hi h];rfl
 ·rw[if_neg h];rfl
theorem aaf {G0:List Nat}{w0 V:World}{C:ig}{GC:List Nat}{mb:Nat}{pm pc:Nat}(hS:gB W0 E H Kk M I b G0 w0 C GC mb gv V a ids its)(hm:aj V pm 41 #[.pointer (some ⟨b,0,none⟩)])(hc:aj V pc 132 #[.pointer (some ⟨cb,0,none⟩)])(hi:⟨id,cb,c⟩∈its)(hd:c.done=false)(hok:c.ok):Calls Tryz.prog 62 #[.pointer (some ⟨pm,0,none⟩),.pointer (some ⟨pc,0,none⟩)] V fun y w'=>∃it,y= .returned (.tuple #[zy it,.nilIface])∧Mod (cb::GC) V w'∧tO W0 E H Kk M I b G0 w0 C GC mb gv a ids its id cb c V it w':=by
 have hsl:=hS.gJ;have hW0:=hS.mod.size;have hB:=(Below.refl V.heap.size V).alloc (Nat.le_refl _) (.cells #[.int .i64 0,.int .u64 0,.int .u64 0] 92);have hR:=aj.new V 92 #[.int .i64 0,.int .u64 0,.int .u64 0];obtain⟨W,hW⟩:∃W,W=V.alloc (.cells #[.int .i64 0,.int .u64 0,.int .u64 0] 92):=⟨_,rfl⟩;rw[←hW]at hB hR;have hst:=abO (hS.below hB) hi hd hok;have kC:=qd hst;have HR:=qd hR;have HW:=qd hW;have HB:=qd hB;have HNf:=qd (show V.heap.size∉eG b C GC mb its from fun hg=>by have:=(hsl _ hg).1;omega)
 have Sj:=qd (show V.heap.size∉cb::GC from fun hg=>by
  rcases List.mem_cons.1 hg with k|k
  ·have:cb<V.heap.size:=(hS.nP.cur _ hi).lt;omega
  ·have:=(hsl _ (aI.2 (.inr (.inr k)))).1;omega)
 have HL:=qd (show V.heap.size<W.heap.size from hR.lt)
 have HCb:=qd (show cb∈bI C.ib mb its from by
  unfold bI;simp only[List.mem_cons,List.mem_map]
  exact .inr (.inr ⟨_,hi,rfl⟩))
 have HW0:=qd hW0;have x0:=(hm.mod (Mod.of_below hB []) (by simp)).cell 0;have y0:=(hc.mod (Mod.of_below hB []) (by simp)).cell 0;simp only[List.getElem?_toArray,List.getElem?_cons_zero]at x0 y0;clear hst hR hW hB hS hi hd hok hm hc hsl hW0;go_in;go_upto_region 1 with fail;rw[←HW.out];go_wp2_with fail;refine kC.out.mono ?_;rintro y w1 ⟨it,rfl,hp⟩
 have hmm:Mod (cb::GC) W w1:=by obtain⟨_,_,_,_,_,_,_,_,q⟩:=hp;exact q
 have hr1:=HR.out.mod hmm Sj.out;obtain⟨r0,r1,r2⟩:=hr1.c3;obtain⟨f0,f1,f2⟩:=hr1.f3;have jq:=(((Mod.refl [V.heap.size] w1).ak (b:=V.heap.size) (.inl (by simp)) 0 (.int .i64 (it.st:Int))).ak (b:=V.heap.size) (.inl (by simp)) 1 (.int .u64 (it.key:Int))).ak (b:=V.heap.size) (.inl (by simp)) 2 (.int .u64 (it.val:Int));obtain⟨c',cc,iq,q1,q2,q3,q4,q5,q6⟩:=hp.mod jq (fun q hq=>by rw[List.mem_singleton.1 hq];exact⟨HNf.out,HW0.out,HL.out⟩)
 have hq6:=(Mod.of_below HB.out (cb::GC)).trans q6 (fun q hq _=>hq) (fun q hq hl=>by
  rcases List.mem_cons.1 hq with k|k
  ·rw[k];simp
  ·rcases List.mem_append.1 k with k|k
   ·exact List.mem_cons_of_mem _ k
   ·rw[List.mem_singleton.1 k]at hl;omega)
 have HF:=qd (show∃L6,(Ending.returned (.tuple #[.agg #[.int .i64 (it.st:Int),.int .u64 (it.key:Int),.int .u64 (it.val:Int)],.nilIface]))= .returned (.tuple #[zy L6,.nilIface])∧Mod (cb::GC) V _∧tO W0 E H Kk M I b G0 w0 C GC mb gv a ids its id cb c V L6 _ from⟨it,rfl,hq6,c',cc,iq,q1,q2,q3,q4,fun q hq=>(q5 q hq).elim .inl (fun k=> .inr (by have:=HL.out;omega)),hq6⟩);clear hmm hr1 jq q1 q2 q3 q4 q5 q6 hq6 hp kC;unfold zy;go_wp2;refine bodyPost_ret (v:= .tuple #[.agg #[.int .i64 (it.st:Int),.int .u64 (it.key:Int),.int .u64 (it.val:Int)],.nilIface]) (by simp[results,Tryz.results62,go_sem,r0,r1,r2]) rfl HF.out
theorem abR {G:List Nat}{w:World}{fF:bE}(h:nC W0 E H Kk M I b G w a ids its gv fF)(hE6:dP E W0 6)(hi:⟨id,cb,c⟩∈its)(hok:c.ok):Calls Tryz.prog 32 #[.pointer (some ⟨b,0,none⟩),.int .i64 (id:Int)] w fun y w'=>∃it c' jB,y= .returned (.tuple #[zy it,.nilIface])∧jX a.ents (jW a) c it c'∧Qe jB∧tN W0 E H Kk M I b G w w' a ids (kG its id c') gv jB:=by
 obtain⟨C,GC,mb,hS,rfl,wK⟩:=h;obtain⟨W,hW,hB,hBm,hBr⟩:=qQ w 41 #[.pointer (some ⟨b,0,none⟩)] 92 #[.int .i64 0,.int .u64 0,.int .u64 0];have hlt:=fun q hq=>(hS.gJ q hq).1;have mJ:=qd (show∀q,w.heap.size≤q→q∉eG b C GC mb its from fun q hq hg=>by have:=hlt q hg;omega);have HS:=qd (hS.below hB);have HX:=qd hBm;have HR:=qd hBr;have HB:=qd hB;have HW:=qd hW;have HI:=qd hi;have KT:=qd hok;have DI:=qd hS.nP.nd;have hbk:=(hS.below hB).blk.blk;unfold ig.cells at hbk;have c16:=hbk.cell 16;simp only[gl]at c16;have x0:=hBm.cell 0;simp only[List.getElem?_toArray,List.getElem?_cons_zero]at x0;have kJ:=qd (Qf (hS.below hB).nP hi);have h6:W.cell? ⟨gE 6,0,none⟩=some (.iface 379 (.pointer (some (E 6)))):=(World.cell?_of_block ((hS.below hB).core.facts.2.2.2.2.2.2.2.2.2.2.2.below.block _ (World.block_lt_of_cell? W0 _ hE6))).trans hE6;have H6:=qd h6
 have HSl:=qd (show∀q∈cb::GC,q<w.heap.size from fun q hq=>by
  rcases List.mem_cons.1 hq with k|k
  ·rw[k];exact(hS.nP.cur _ hi).lt
  ·exact hlt q (aI.2 (.inr (.inr k))))
 have HCb:=qd (show cb∈bI C.ib mb its from by
  unfold bI;simp only[List.mem_cons,List.mem_map]
  exact .inr (.inr ⟨_,hi,rfl⟩))
 clear hbk hW hB hBm hBr hS hi hok hlt wK h6;go_in;go_upto_region 1 with fail;rw[←HW.out];go_wp2_with fail;refine kJ.out.mono ?_;rintro y w1 ⟨rfl,rfl⟩;clear kJ x0 c16;go_upto_region 2 with fail;refine dQ 132 #[.pointer (some ⟨cb,0,none⟩)] ?_;rintro W1 ⟨hP,hb⟩;have h6:=aA hb H6.out;have HP:=qd hP;replace HS:=qd (HS.out.below hb);replace HX:=qB hb HX;replace HR:=qB hb HR;have HB1:=qd (bQ hb HB.out);obtain⟨pc,hpc⟩:∃pc,pc=W.heap.size:=⟨_,rfl⟩;rw[←hpc]at HP⊢;have Az:=qd hpc;replace H6:=qd h6;clear hP hb hpc h6;have p0:=HP.out.cell 0;simp only[List.getElem?_toArray,List.getElem?_cons_zero]at p0;have hdn:=FP (HS.out.nP.cur _ HI.out);have HNr:=qd (show(w.heap.size+1)∉[b]from fun hg=>mJ.out _ (by omega) (aI.2 (.inl (List.mem_singleton.1 hg))));have P6:=qd HNr.out;have x0:=HX.out.cell 0;simp only[List.getElem?_toArray,List.getElem?_cons_zero]at x0
 cases hd:c.done with
 |true=>
  rw[hd]at hdn;have HDn:=qd hdn;have Jm:=qd (show Calls Tryz.prog 39 #[.pointer (some ⟨b,0,none⟩),.agg #[.int .i64 0,.int .i64 0,.int .i64 0]] W1 _ from BP HS.out.blk ⟨0,0,0⟩);have ND:=qd (fun V=>ac5 (E 6) V);have Xd:=qd hd;clear hdn hd;go_wp2_with fail;refine HDn.out.mono ?_;rintro y w2 ⟨rfl,rfl⟩;clear HDn;go_wp2_with fail;refine Jm.out.mono ?_;rintro y w2 ⟨rfl,hB2,hm2⟩;have hs2:=HS.out.Uy hB2 hm2 ⟨rfl,rfl,rfl,rfl,rfl⟩
  have hgb:gE 6∉[b]:=fun hh=>by
   have h1:=World.block_lt_of_cell? W0 _ hE6;have h2:=HS.out.b0.1;rw[List.mem_singleton.1 hh]at h1;exact absurd h1 (by show¬b<W0.heap.size;omega)
  have h6:w2.cell? ⟨gE 6,0,none⟩=some (.iface 379 (.pointer (some (E 6)))):=(World.cell?_of_block (hm2.block _ (World.block_lt_of_cell? W1 _ H6.out) hgb)).trans H6.out;unfold gE at h6;have hr2:=HR.out.mod hm2 HNr.out;obtain⟨r0,r1,r2⟩:=hr2.c3;obtain⟨f0,f1,f2⟩:=hr2.f3;have HS2:=qd hs2;clear hs2 hB2 hm2 hgb hr2 Jm;go_wp2_with fail;refine(ND.out _).mono ?_;rintro y w3 ⟨rfl,rfl⟩;clear ND;have jq:=(((Mod.refl [w.heap.size+1] w2).ak (b:=w.heap.size+1) (.inl (by simp)) 0 (.int .i64 3)).ak (b:=w.heap.size+1) (.inl (by simp)) 1 (.int .u64 0)).ak (b:=w.heap.size+1) (.inl (by simp)) 2 (.int .u64 0);have hs3:=HS2.out.Ej jq (fun q hq=>by rw[List.mem_singleton.1 hq];exact⟨mJ.out _ (by omega),by omega⟩);have hto:=hs3.to;have HF:=qd (show∃it c' jB,(Ending.returned (.tuple #[.agg #[.int .i64 3,.int .u64 0,.int .u64 0],.nilIface]))= .returned (.tuple #[zy it,.nilIface])∧jX a.ents (jW a) c it c'∧Qe jB∧tN W0 E H Kk M I b (eG b C GC mb its) w _ a ids (kG its id c') gv jB from⟨⟨3,0,0⟩,c,⟨0,0,0⟩,rfl,.done Xd.out,⟨by decide,by decide,rfl⟩,by rw[UH DI.out HI.out];exact hto⟩);clear jq hs3 hto h6;go_wp2;refine bodyPost_ret (v:= .tuple #[.agg #[.int .i64 3,.int .u64 0,.int .u64 0],.nilIface]) (by simp[results,Tryz.results32,go_sem,r0,r1,r2]) rfl HF.out
 |false=>
  rw[hd]at hdn;have HDn:=qd hdn;have pX:∀(fn:Fn) (first cap:Array Value) (w:World),(Instr.makeFunc fn first cap).run Tryz.prog w= .ok (.func fn first cap) w:=fun _ _ _ _=>rfl
  have VA:=qd (aae (S:=cb::GC) (K:=fun V it w1=>tO W0 E H Kk M I b (eG b C GC mb its) w C GC mb gv a ids its id cb c V it w1) 62 #[.pointer (some ⟨w.heap.size,0,none⟩),.pointer (some ⟨pc,0,none⟩)] W1 (fun V=>enters_of Tryz.func62 (by kernel_rfl) rfl _ V) (fun q hq=>Nat.lt_of_lt_of_le (HSl.out q hq) HB1.out.size)
   (fun V rM _=>aaf (HS.out.below rM) (HX.out.mod (Mod.of_below rM []) (by simp)) (HP.out.mod (Mod.of_below rM []) (by simp)) HI.out hd KT.out))
  have XE:=qd (show w.heap.size<W1.heap.size∧w.heap.size+1<W1.heap.size from⟨HX.out.lt,HR.out.lt⟩);clear hdn hd p0;have p0:=HP.out.cell 0;simp only[List.getElem?_toArray,List.getElem?_cons_zero]at p0;go_wp2_with fail;refine HDn.out.mono ?_;rintro y w2 ⟨rfl,rfl⟩;clear HDn;go_wp2_with fail;refine VA.out.mono ?_;rintro y w3 ⟨V,it,w2,T,rfl,rM,hmS,hst,hmT,hT⟩;have hxs:∀q,w.heap.size≤q→q<W1.heap.size→q∉cb::GC∧q∉T:=fun q h1 h2=>⟨fun hh=>by have:=HSl.out q hh;omega,fun hh=>by have:=(hT q hh).1;omega⟩;have hX3:=((HX.out.mod (Mod.of_below rM []) (by simp)).mod hmS (hxs _ (Nat.le_refl _) XE.out.1).1).mod hmT (hxs _ (Nat.le_refl _) XE.out.1).2;have FE:=((HR.out.mod (Mod.of_below rM []) (by simp)).mod hmS (hxs _ (by omega) XE.out.2).1).mod hmT (hxs _ (by omega) XE.out.2).2
  obtain⟨c',cc,iq,q1,q2,q3,q4,q5,q6⟩:=hst.mod hmT (fun q hq=>by
   have:=hT q hq;have:=HB1.out.size
   exact⟨mJ.out q (by omega),by omega,by omega⟩)
  replace HX:=qd hX3;replace HR:=qd FE;replace HS:=qd q3;have yT:=qd q4;have j5:=qd (And.intro q1 q2);have HR4:=qd (show(w.heap.size+1)∉iq from fun hg=>(q5 _ hg).elim (fun k=>mJ.out _ (by omega) (aI.2 (.inr (.inr k)))) (fun k=>by have:=XE.out.2;have:=rM.size;omega));have Om:=qd (show∀q,w3.heap.size≤q→q≠b from fun q hq e=>by have:=q3.blk.lt;omega);clear hxs hX3 FE hst hmT hT hmS rM q1 q2 q3 q4 q5 q6 VA p0 x0;unfold zy;go_upto_region 8 with fail;refine dQ 92 #[.int .i64 (it.st:Int),.int .u64 (it.key:Int),.int .u64 (it.val:Int)] ?_;rintro W4 ⟨hO,hb⟩;replace HS:=qd (HS.out.below hb);replace yT:=qd (yT.out.below hb);replace HX:=qB hb HX;replace HR:=qB hb HR;have HO:=qd hO;have HNo:=qd (show w3.heap.size∉[b]from fun hh=>Om.out _ (Nat.le_refl _) (List.mem_singleton.1 hh));obtain⟨ob,nH⟩:∃ob,ob=w3.heap.size:=⟨_,rfl⟩;rw[←nH]at HO HNo⊢;clear hO hb nH;have hcc:=yT.out;have hbk:=HS.out.blk.blk;unfold ig.cells at hbk;have c3:=hbk.cell 3;simp only[gl]at c3;have x0:=HX.out.cell 0;simp only[List.getElem?_toArray,List.getElem?_cons_zero]at x0;have iF:=qd (J7 (hcc.below (Below.refl W4.heap.size W4).drew));unfold oz at iF;clear hbk hcc;refine rT (fun(w':World)=>w'.cell? ⟨w.heap.size,0,none⟩=some (.pointer (some ⟨b,0,none⟩))∧w'.cell? ⟨b,3,none⟩=some (.pointer (some ⟨C.cb,0,none⟩))) [7] ?_;have hHeld:=(⟨x0,c3⟩:_∧_);refine vT 0 rfl ?_;refine nT 1 rfl fun K hK=> ?_;go_simp;refine kO hK ?_;clear hK K;refine vW 2 rfl ?_;refine vW 3 rfl ?_;refine nT 4 rfl fun K hK=> ?_;go_simp
  refine kO hK ?_;clear hK K;refine nT 5 rfl fun K hK=> ?_;go_simp;refine(BQ _ _).mono ?_;rintro y V1 ⟨rfl,rfl⟩;go_wp2_with fail;have hHeld:=(⟨x0,c3⟩:_∧_);refine kO hK ?_;clear hK K;refine nT 6 rfl fun K hK=> ?_;go_simp;refine(iF.out).mono ?_;rintro y V2 ⟨rfl,hb⟩;replace hb:Below W4.heap.size W4 V2:=bQ hb (Below.refl _ _).drew;replace HS:=qd (HS.out.below hb);replace HR:=qB hb HR;replace HO:=qB hb HO;replace x0:=aA hb x0;replace c3:=aA hb c3;clear hb iF;go_wp2_with fail;have hHeld:=(⟨x0,c3⟩:_∧_);refine kO hK ?_;clear hK K;refine nT 7 rfl fun K hK=> ?_;go_simp;have vY:=qd (show Calls Tryz.prog 39 #[.pointer (some ⟨b,0,none⟩),.agg #[.int .i64 cc.p,.int .i64 cc.v,.int .i64 cc.u]] V2 _ from BP HS.out.blk cc);refine(vY.out).mono ?_;rintro y V3 ⟨rfl,hwr,q3⟩;have jg:=qd (HS.out.Uy hwr q3 ⟨rfl,rfl,rfl,rfl,rfl⟩);replace HR:=qd (HR.out.mod q3 P6.out);replace HO:=qd (HO.out.mod q3 HNo.out);clear hwr q3 vY HS x0 c3;go_wp2_with fail;refine kO hK ?_;clear hK K;refine aT (by kernel_rfl) ?_ _;have o0:=HO.out.cell 0;have o1:=HO.out.cell 1;have o2:=HO.out.cell 2;have r0:=HR.out.cell 0;have r1:=HR.out.cell 1;have r2:=HR.out.cell 2;simp only[gl]at o0 o1 o2 r0 r1 r2;obtain⟨f0,f1,f2⟩:=HR.out.f3;have jq:=(((Mod.refl [w.heap.size+1] V3).ak (b:=w.heap.size+1) (.inl (by simp)) 0 (.int .i64 (it.st:Int))).ak (b:=w.heap.size+1) (.inl (by simp)) 1 (.int .u64 (it.key:Int))).ak (b:=w.heap.size+1) (.inl (by simp)) 2 (.int .u64 (it.val:Int))
  have hs3:=jg.out.Ej jq (fun q hq=>by
   rw[List.mem_singleton.1 hq];refine⟨fun hg=> ?_,by omega⟩;have sJ:=HR4.out;rcases aI.1 hg with k|k|k
   ·exact mJ.out _ (by omega) (aI.2 (.inl k))
   ·rw[xw]at k;exact mJ.out _ (by omega) (aI.2 (.inr (.inl k)))
   ·exact sJ k)
  have hto:=hs3.to;have HF:=qd (show∃L6 c' jB,(Ending.returned (.tuple #[.agg #[.int .i64 (it.st:Int),.int .u64 (it.key:Int),.int .u64 (it.val:Int)],.nilIface]))= .returned (.tuple #[zy L6,.nilIface])∧jX a.ents (jW a) c L6 c'∧Qe jB∧tN W0 E H Kk M I b (eG b C GC mb its) w _ a ids (kG its id c') gv jB from⟨it,c',cc,rfl,j5.out.1,j5.out.2,hto⟩);clear jq hs3 hto;go_wp2;refine bodyPost_ret (v:= .tuple #[.agg #[.int .i64 (it.st:Int),.int .u64 (it.key:Int),.int .u64 (it.val:Int)],.nilIface]) (by simp[results,Tryz.results32,go_sem,r0,r1,r2]) rfl HF.out
end
section
theorem wM {m:ay}{h k:Nat}(hm:m.hash<h∨(m.hash=h∧m.key≤k)):(behind h k).passed m:=by
 unfold behind gy.passed;split
 ·right;simp[bg];omega
 ·split
  ·right;simp[bg];omega
  ·left;rfl
section
variable {es : List ay} {hs : List Nat} {c c' : gy} {i : En}
theorem jX.keeps (h:jX es hs c i c'){e:ay}(he:e.hash<18446744073709551616∧e.key<18446744073709551616)(hp:c.passed e):c'.passed e:=by
 cases h with
 |done=>exact hp
 |yield hd hi m h1 h2 h3 h4 hm=>
  have hp2:bg e ⟨c.key,0,c.hash⟩=true:=hp.resolve_left (by rw[hd];simp);have hn:=hm.2.1;refine wM ?_;simp[bg]at hp2 hn;omega
 |skip hd hi h1 h2 h3 h4 hm=>
  have hp2:bg e ⟨c.key,0,c.hash⟩=true:=hp.resolve_left (by rw[hd];simp);refine wM ?_;simp[bg]at hp2;omega
theorem jX.tells (h:jX es hs c i c'):(i.st=1∧c.done=false∧∃m∈es,i.key=m.key∧i.val=m.val∧¬c.passed m∧c'.passed m)∨((i.st=2∨i.st=3)∧i.key=0∧i.val=0∧(i.st=3↔c'.done=true)∧(c.done=true→i.st=3)):=by
 cases h with
 |done hd=>exact .inr ⟨.inr rfl,rfl,rfl,by simp[hd],fun _=>rfl⟩
 |yield hd hi m h1 h2 h3 h4 hm=>
  refine .inl ⟨rfl,hd,m,(o9.1 hm.1).1,rfl,rfl,fun hp=> ?_,wM (.inr ⟨rfl,Nat.le_refl _⟩)⟩;have:=hp.resolve_left (by rw[hd];simp);rw[hm.2.1]at this;cases this
 |skip hd hi h1 h2 h3 h4 hm=>
  refine .inr ⟨by simp only;split<;>simp,rfl,rfl, ?_,fun h=>by rw[hd]at h;cases h⟩;unfold behind
  by_cases hlt:hi<18446744073709551615<;>simp[hlt]
instance (c:gy)(e:ay):Decidable (c.passed e):=by unfold gy.passed;infer_instance
def zB (es:List ay)(hs:List Nat)(c:gy):Nat:=if c.done=true then 0 else(es.filter fun e=> !decide (c.passed e)).length+(hs.filter fun h=>decide (c.hash≤h)).length
theorem ac7 (es:List ay)(hs:List Nat)(c:gy):zB es hs c≤es.length+hs.length:=by
 unfold zB;split
 ·exact Nat.zero_le _
 ·exact Nat.add_le_add (List.length_filter_le _ _) (List.length_filter_le _ _)
theorem filter_le {α:Type}{p q:α→Bool}:∀{l:List α},(∀x∈l,p x=true→q x=true)→(l.filter p).length≤(l.filter q).length
 | [],_=>Nat.le_refl _
 |x::l,h=>by
  have ih:=filter_le (l:=l) fun y hy=>h y (by simp[hy]);rw[List.filter_cons,List.filter_cons];have hx:=h x (by simp);split
  ·rename_i hp;rw[if_pos (hx hp)];simp;exact ih
  ·split
   ·simp;omega
   ·exact ih
theorem filter_lt {α:Type}{p q:α→Bool}:∀{l:List α},(∀x∈l,p x=true→q x=true)→(∃x∈l,q x=true∧p x=false)→(l.filter p).length<(l.filter q).length
 | [],_,h=>by obtain⟨_,h,_⟩:=h;cases h
 |x::l,h,hx=>by
  have hle:=filter_le (l:=l) fun y hy=>h y (by simp[hy]);rw[List.filter_cons,List.filter_cons];obtain⟨y,hy,h1,h2⟩:=hx;rcases List.mem_cons.1 hy with e|hy
  ·subst e;rw[if_neg (by rw[h2];simp),if_pos h1];simp;omega
  ·have hlt:=filter_lt (l:=l) (fun z hz=>h z (by simp[hz])) ⟨y,hy,h1,h2⟩;have hq:=h x (by simp);split
   ·rename_i hp;rw[if_pos (hq hp)];simp;exact hlt
   ·split
    ·simp;omega
    ·exact hlt
theorem jX.zB (h:jX es hs c i c')(hes:∀e∈es,e.hash<18446744073709551616∧e.key<18446744073709551616)(hne:i.st≠3):zB es hs c'<zB es hs c:=by
 have hk:=fun(e:ay) (he:e∈es) (hp:c.passed e)=>h.keeps (hes e he) hp;rcases h.tells with⟨_,hd,m,h2,_,_,h3,h4⟩|⟨hst,_,_,h3,h4⟩
 ·have hm1:1≤(es.filter fun e=> !decide (c.passed e)).length:=by
   have:m∈es.filter fun e=> !decide (c.passed e):=List.mem_filter.2 ⟨h2,by simp[h3]⟩;exact List.length_pos_of_mem this
  unfold Go.Proofs.YtgiaobmcbbfmnaaGreatDoor.zB;rw[if_neg (show¬c.done=true by rw[hd];simp)];by_cases hd':c'.done=true
  ·rw[if_pos hd'];omega
  ·rw[if_neg hd']
   have e1:=filter_lt (l:=es) (p:=fun e=> !decide (c'.passed e)) (q:=fun e=> !decide (c.passed e)) (fun e he hp=>by
    simp at hp⊢;exact fun hq=>hp (hk e he hq)) ⟨m,h2,by simp[h3],by simp[h4]⟩
   have e2:(hs.filter fun h=>decide (c'.hash≤h)).length≤(hs.filter fun h=>decide (c.hash≤h)).length:=filter_le fun x _ hx=>by
    simp at hx⊢
    cases h with
    |yield hd hi m' g1 g2 g3 g4 hm=>
     have hn:=hm.2.1;simp[bg]at hn
     have:m'.hash≤(behind m'.hash m'.key).hash:=by
      unfold behind;split
      ·exact Nat.le_refl _
      ·split
       ·exact Nat.le_succ _
       ·rename_i a b;exact absurd (by unfold behind;rw[if_neg a,if_neg b]) hd'
     omega
    |done hd2=>rw[hd]at hd2;cases hd2
    |skip hd2 x g1 g2 g3=>
     have:x≤(behind x 18446744073709551615).hash:=by
      unfold behind;rw[if_neg (by omega)];split
      ·exact Nat.le_succ _
      ·rename_i b;exact absurd (by unfold behind;rw[if_neg (by omega),if_neg b]) hd'
     omega
   omega
 ·have hd:c.done=false:=by
   cases hd:c.done with
   |false=>rfl
   |true=>exact absurd (h4 hd) hne
  have hd':¬c'.done=true:=fun e=>hne (h3.2 e);unfold Go.Proofs.YtgiaobmcbbfmnaaGreatDoor.zB;rw[if_neg (show¬c.done=true by rw[hd];simp),if_neg hd']
  have e1:(es.filter fun e=> !decide (c'.passed e)).length≤(es.filter fun e=> !decide (c.passed e)).length:=filter_le fun e he hp=>by
   simp at hp⊢;exact fun hq=>hp (hk e he hq)
  have e2:(hs.filter fun h=>decide (c'.hash≤h)).length<(hs.filter fun h=>decide (c.hash≤h)).length:=by
   cases h with
   |done hd2=>rw[hd]at hd2;cases hd2
   |yield hd2 x m g1 g2 g3 g4 hm=>
    rcases hst with k|k<;>cases k
   |skip hd2 x g1 g2 g3 g4 hm=>
    have hx:x<18446744073709551615:=by
     by_cases hlt:x<18446744073709551615
     ·exact hlt
     ·exact absurd (by unfold behind;rw[if_neg (by omega),if_neg hlt]) hd'
    have hb:(behind x 18446744073709551615).hash=x+1:=by
     unfold behind;rw[if_neg (by omega),if_pos hx]
    rw[hb];exact filter_lt (fun y _ hy=>by simp at hy⊢;omega) ⟨x,g2,by simpa using g1,by simp⟩
  omega
end
end
end Go.Proofs.YtgiaobmcbbfmnaaGreatDoor
