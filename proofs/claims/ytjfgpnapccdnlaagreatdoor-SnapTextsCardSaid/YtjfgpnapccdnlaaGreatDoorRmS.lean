/- A map's Next by its contract. No statement of the claim. -/
import Derived.Test.YtjfgpnapccdnlaaGreatDoorRmF
import Derived.Test.YtjfgpnapccdnlaaGreatDoorKit2
import Derived.Test.YtjfgpnapccdnlaaGreatDoorBuilder
import Derived.Test.YtjfgpnapccdnlaaGreatDoorSqT
namespace Go.Proofs.YtjfgpnapccdnlaaGreatDoor
set_option maxRecDepth 100000
set_option maxHeartbeats 4000000
open Go.RowKit dF
theorem aaW (d:Nat)(fn:Fn)(a b:Array Value)(w:World):(Op.equalIn (d+1) 160 (.func fn a b) .nilFunc).run Tryz.prog w= .ok false w:=by simp[Op.equalIn,run_underlying Tryz.underlying160]
theorem ad7 (fn:Fn)(a b:Array Value)(w:World):(Op.equal 160 (.func fn a b) .nilFunc).run Tryz.prog w= .ok false w:=aaW 9999 fn a b w
theorem acG (d:Nat)(x:TypeId)(v:Value)(w:World):(Op.equalIn (d+1) 32 .nilIface (.iface x v)).run Tryz.prog w= .ok false w:=by simp[Op.equalIn,run_underlying Tryz.underlying32]
theorem aeG (x:TypeId)(v:Value)(w:World):(Op.equal 32 .nilIface (.iface x v)).run Tryz.prog w= .ok false w:=acG 9999 x v w
theorem ad8 (a:Addr)(w:World):Calls Tryz.prog 25 #[.nilIface,.iface 391 (.pointer (some a))] w fun e w'=>e= .returned (.bool false)∧w=w':=by
 have hq:∀W:World,(binOp .eql 32 .nilIface (.iface 391 (.pointer (some a)))).run Tryz.prog W= .ok (.bool false) W:=fun W=>by
  simp only[binOp];simp[aeG]
 go_in;go_wp2;go_ret;exact⟨rfl,rfl⟩
theorem acH {S:List Nat}{K:Es→World→Prop}(G:FuncId)(cap:Array Value){V:World}{fb ob eb:Nat}(hG:∀W:World,(callFunc G cap).run Tryz.prog W= .ok (.enter G cap) W)(hF:aj V fb 160 #[.func (.func G) #[] cap])(hO:aj V ob 102 #[.int .i64 0,.int .u64 0,.int .u64 0])(hE:aj V eb 32 #[.nilIface])(hN:ob∉S∧eb∉S)(hoe:ob≠eb)
  (hc:Calls Tryz.prog G cap V fun y w1=>∃it,y= .returned (.tuple #[zx it,.nilIface])∧Mod S V w1∧K it w1):
  Calls Tryz.prog 108 #[.pointer (some ⟨fb,0,none⟩),.pointer (some ⟨ob,0,none⟩),.pointer (some ⟨eb,0,none⟩)] V fun y w'=>y= .returned undef∧∃it w1,K it w1∧Mod S V w1∧Mod [ob] w1 w'∧aj w' ob 102 #[.int .i64 (it.st:Int),.int .u64 (it.key:Int),.int .u64 (it.val:Int)]∧aj w' eb 32 #[.nilIface]:=by
 have HO:=qd hO;have HE:=qd hE;have HN:=qd hN;have HC:=qd hc;have x0:=hF.cell 0;simp only[List.getElem?_toArray,List.getElem?_cons_zero]at x0;have hgg:=hG;have HOE:=qd hoe;clear hF hO hE hN hc hoe;go_in;go_wp2_with fail;refine HC.out.mono ?_;rintro y w1 ⟨it,rfl,hm,hk⟩;have yY:=HO.out.mod hm HN.out.1;have hE1:=HE.out.mod hm HN.out.2;have o0:=yY.cell 0;have o1:=yY.cell 1;have o2:=yY.cell 2;have e0:=hE1.cell 0;simp only[gl]at o0 o1 o2 e0;obtain⟨of0,of1,of2⟩:=yY.f3;have ef0:=hE1.frozen 0;have hid:=hE1.jX (i:=0) (u:= .nilIface) rfl;have hn:=((yY.ak 0 (.int .i64 (it.st:Int))).ak 1 (.int .u64 (it.key:Int))).ak 2 (.int .u64 (it.val:Int));have hm2:=(((Mod.refl [ob] w1).sl 0 (.int .i64 (it.st:Int))).sl 1 (.int .u64 (it.key:Int))).sl 2 (.int .u64 (it.val:Int));simp only[pt]at hn;have hE2:=hE1.mod hm2 (fun hh=>HOE.out (List.mem_singleton.1 hh).symm);have ad9:=hE2.jX (i:=0) (u:= .nilIface) rfl;have HF:=qd (show∃it w2,K it w2∧Mod S V w2∧Mod [ob] w2 _∧aj _ ob 102 #[.int .i64 (it.st:Int),.int .u64 (it.key:Int),.int .u64 (it.val:Int)]∧aj _ eb 32 #[.nilIface]from⟨it,w1,hk,hm,hm2,hn,hE2⟩);have hne1:=HOE.out;have hne2:eb≠ob:=fun e=>hne1 e.symm;clear e0 ef0;have e0:=hE1.cell 0;simp only[gl]at e0;have ef0:=hE1.frozen 0;have HI:=qd ad9;clear hm hk yY hE1 hid hn hm2 hE2 ad9;unfold zx;go_wp2;go_end0;rw[HI.out];exact⟨rfl,HF.out⟩
theorem aaX {S:List Nat}{K:World→Es→World→Prop}(G:FuncId)(cap:Array Value)(w:World)(hG:∀W:World,(callFunc G cap).run Tryz.prog W= .ok (.enter G cap) W)(hS:∀q∈S,q<w.heap.size)
  (hc:∀V,Below w.heap.size w V→w.heap.size+5≤V.heap.size→Calls Tryz.prog G cap V fun y w1=>∃it,y= .returned (.tuple #[zx it,.nilIface])∧Mod S V w1∧K V it w1):
  Calls Tryz.prog 70 #[.func (.func G) #[] cap] w fun y w'=>∃V it w1 T,y= .returned (.tuple #[zx it,.nilIface])∧Below w.heap.size w V∧Mod S V w1∧K V it w1∧Mod T w1 w'∧∀q∈T,w.heap.size≤q∧q<V.heap.size:=by
 obtain⟨W,hW,hB,hBf,hBr,hBo,hBn,Qt⟩:=qX5 w 160 #[.func (.func G) #[] cap] 102 #[.int .i64 0,.int .u64 0,.int .u64 0] 102 #[.int .i64 0,.int .u64 0,.int .u64 0] 102 #[.int .i64 0,.int .u64 0,.int .u64 0] 32 #[.nilIface];have hsz:=hB.size;have HW:=qd hW;have HB:=qd hB;have hWl:=Qt.lt;have HBf:=qd hBf;have HBr:=qd hBr;have Qm:=qd hBo;have Aq:=qd Qt;have HS:=qd hS;have HC:=qd hc;clear hW hB hBf hBr hBo hBn Qt hS hc;have pW:∀(fn:Fn) (first cap:Array Value) (w:World),(Instr.makeFunc fn first cap).run Tryz.prog w= .ok (.func fn first cap) w:=fun _ _ _ _=>rfl
 have hq:∀W:World,(binOp .eql 160 (.func (.func G) #[] cap) .nilFunc).run Tryz.prog W= .ok (.bool false) W:=fun W=>by
  simp only[binOp];simp[ad7]
 have yM:=(Below.refl W.heap.size W).alloc (Nat.le_refl _) (.cells #[.nilIface] 32);have rJ:Below w.heap.size w (W.alloc (.cells #[.nilIface] 32)):=bP yM HB.out
 have hlV:w.heap.size+5≤(W.alloc (.cells #[.nilIface] 32)).heap.size:=by simp;omega
 have HNS:=qd (show∀q,w.heap.size≤q→q∉S from fun q hq hs=>by have:=HS.out q hs;omega)
 have yN:=qd (Jy (S:=(w.heap.size+1+1)::S) (K:=fun w'=>∃it w1,K (W.alloc (.cells #[.nilIface] 32)) it w1∧Mod S (W.alloc (.cells #[.nilIface] 32)) w1∧Mod [(w.heap.size+1+1)] w1 w'∧aj w' (w.heap.size+1+1) 102 #[.int .i64 (it.st:Int),.int .u64 (it.key:Int),.int .u64 (it.val:Int)]∧aj w' (w.heap.size+1+1+1+1) 32 #[.nilIface]) 108 #[.pointer (some ⟨w.heap.size,0,none⟩),.pointer (some ⟨(w.heap.size+1+1),0,none⟩),.pointer (some ⟨(w.heap.size+1+1+1+1),0,none⟩)] W (fun V=>enters_of Tryz.func108 (by kernel_rfl) rfl _ V)
  (fun hg=>by
   rcases List.mem_cons.1 hg with k|k
   ·omega
   ·exact HNS.out _ (by omega) k)
  ((acH G cap hG (HBf.out.mod (Mod.of_below yM []) (by simp)) (Qm.out.mod (Mod.of_below yM []) (by simp)) (Aq.out.mod (Mod.of_below yM []) (by simp)) ⟨HNS.out _ (by omega),HNS.out _ (by omega)⟩ (by omega) (HC.out _ rJ hlV)).mono (fun y w1 hh=>⟨hh.1,(by
   obtain⟨it,w2,k1,k2,k3,_,_⟩:=hh.2
   exact k2.trans k3 (fun q hq _=>List.mem_cons_of_mem _ hq) (fun q hq _=>by rw[List.mem_singleton.1 hq];simp)),hh.2⟩)))
 have HV:=qd (And.intro rJ hlV);have yO:=qd yM;have x0:=HBf.out.cell 0;simp only[List.getElem?_toArray,List.getElem?_cons_zero]at x0;clear yM rJ hlV;go_in;go_upto_region 3 with fail;rw[←HW.out];go_wp2_with fail;refine yN.out.mono ?_;rintro y w1 ⟨rfl,hm1,it,w2,hk,hm2,kL,ho,he⟩
 have hr1:=(HBr.out.mod (Mod.of_below yO.out []) (by simp)).mod hm1 (fun hg=>by
  rcases List.mem_cons.1 hg with k|k
  ·omega
  ·exact HNS.out _ (by omega) k)
 have r0:=hr1.cell 0;have r1:=hr1.cell 1;have r2:=hr1.cell 2;have o0:=ho.cell 0;have o1:=ho.cell 1;have o2:=ho.cell 2;have e0:=he.cell 0;simp only[gl]at r0 r1 r2 o0 o1 o2 e0;obtain⟨f0,f1,f2⟩:=hr1.f3;have jC:=(((Mod.refl [(w.heap.size+1)] w1).sl 0 (.int .i64 (it.st:Int))).sl 1 (.int .u64 (it.key:Int))).sl 2 (.int .u64 (it.val:Int));have hmt:=kL.trans jC (U:=[(w.heap.size+1),(w.heap.size+1+1)]) (fun q hq _=>by simp at hq⊢;exact .inr hq) (fun q hq _=>by simp at hq⊢;exact .inl hq)
 have HF:=qd (show∃V Mv w1 T,(Ending.returned (.tuple #[.agg #[.int .i64 (it.st:Int),.int .u64 (it.key:Int),.int .u64 (it.val:Int)],.nilIface]))= .returned (.tuple #[zx Mv,.nilIface])∧Below w.heap.size w V∧Mod S V w1∧K V Mv w1∧Mod T w1 _∧∀q∈T,w.heap.size≤q∧q<V.heap.size from⟨_,it,w2,_,rfl,HV.out.1,hm2,hk,hmt,fun q hq=>by
  have:=HV.out.2;simp at hq
  rcases hq with k|k<;>omega⟩)
 clear hm1 hk hm2 kL ho he hr1 jC hmt yN;go_wp2;refine bodyPost_ret (v:= .tuple #[.agg #[.int .i64 (it.st:Int),.int .u64 (it.key:Int),.int .u64 (it.val:Int)],.nilIface]) (by simp[results,Tryz.results70,go_sem,r0,r1,r2]) rfl HF.out
section
variable {its : List It} {I Kk M b cb gv id : Nat} {c : fZ} {W0 : World} {E : Nat → Addr} {H : Nat → Nat} {a : Pool} {ids : List Nat}
theorem Vk (hn:(its.map It.id).Nodup)(hi:⟨id,cb,c⟩∈its):kJ its id c=its:=by
 unfold kJ
 conv=>rhs;rw[←List.map_id its]
 apply List.map_congr_left;intro i hi';by_cases h:i.id=id
 ·rw[if_pos h,yL hn hi' hi h];rfl
 ·rw[if_neg h];rfl
theorem aaY {G0:List Nat}{w0 V:World}{C:iw}{GC:List Nat}{mb:Nat}{pm pc:Nat}(hS:gq W0 E H Kk M I b G0 w0 C GC mb gv V a ids its)(hm:aj V pm 40 #[.pointer (some ⟨b,0,none⟩)])(hc:aj V pc 155 #[.pointer (some ⟨cb,0,none⟩)])(hi:⟨id,cb,c⟩∈its)(hd:c.done=false)(hok:c.ok):Calls Tryz.prog 71 #[.pointer (some ⟨pm,0,none⟩),.pointer (some ⟨pc,0,none⟩)] V fun y w'=>∃it,y= .returned (.tuple #[zx it,.nilIface])∧Mod (cb::GC) V w'∧tF W0 E H Kk M I b G0 w0 C GC mb gv a ids its id cb c V it w':=by
 have hsl:=hS.iE;have hW0:=hS.mod.size;have hB:=(Below.refl V.heap.size V).alloc (Nat.le_refl _) (.cells #[.int .i64 0,.int .u64 0,.int .u64 0] 102);have hR:=aj.new V 102 #[.int .i64 0,.int .u64 0,.int .u64 0];obtain⟨W,hW⟩:∃W,W=V.alloc (.cells #[.int .i64 0,.int .u64 0,.int .u64 0] 102):=⟨_,rfl⟩;rw[←hW]at hB hR;have hst:=acF (hS.below hB) hi hd hok;have jT:=qd hst;have HR:=qd hR;have HW:=qd hW;have HB:=qd hB;have HNf:=qd (show V.heap.size∉eF b C GC mb its from fun hg=>by have:=(hsl _ hg).1;omega)
 have SY:=qd (show V.heap.size∉cb::GC from fun hg=>by
  rcases List.mem_cons.1 hg with k|k
  ·have:cb<V.heap.size:=(hS.ou.cur _ hi).lt;omega
  ·have:=(hsl _ (aJ.2 (.inr (.inr k)))).1;omega)
 have HL:=qd (show V.heap.size<W.heap.size from hR.lt)
 have HCb:=qd (show cb∈bH C.ib mb its from by
  unfold bH;simp only[List.mem_cons,List.mem_map]
  exact .inr (.inr ⟨_,hi,rfl⟩))
 have HW0:=qd hW0;have x0:=(hm.mod (Mod.of_below hB []) (by simp)).cell 0;have y0:=(hc.mod (Mod.of_below hB []) (by simp)).cell 0;simp only[List.getElem?_toArray,List.getElem?_cons_zero]at x0 y0;clear hst hR hW hB hS hi hd hok hm hc hsl hW0;go_in;go_upto_region 1 with fail;rw[←HW.out];go_wp2_with fail;refine jT.out.mono ?_;rintro y w1 ⟨it,rfl,hp⟩
 have hmm:Mod (cb::GC) W w1:=by obtain⟨_,_,_,_,_,_,_,_,q⟩:=hp;exact q
 have hr1:=HR.out.mod hmm SY.out;obtain⟨r0,r1,r2⟩:=hr1.c3;obtain⟨f0,f1,f2⟩:=hr1.f3;have jC:=(((Mod.refl [V.heap.size] w1).ak (b:=V.heap.size) (.inl (by simp)) 0 (.int .i64 (it.st:Int))).ak (b:=V.heap.size) (.inl (by simp)) 1 (.int .u64 (it.key:Int))).ak (b:=V.heap.size) (.inl (by simp)) 2 (.int .u64 (it.val:Int));obtain⟨c',cc,gU,q1,q2,q3,q4,q5,q6⟩:=hp.mod jC (fun q hq=>by rw[List.mem_singleton.1 hq];exact⟨HNf.out,HW0.out,HL.out⟩)
 have hq6:=(Mod.of_below HB.out (cb::GC)).trans q6 (fun q hq _=>hq) (fun q hq hl=>by
  rcases List.mem_cons.1 hq with k|k
  ·rw[k];simp
  ·rcases List.mem_append.1 k with k|k
   ·exact List.mem_cons_of_mem _ k
   ·rw[List.mem_singleton.1 k]at hl;omega)
 have HF:=qd (show∃Mv,(Ending.returned (.tuple #[.agg #[.int .i64 (it.st:Int),.int .u64 (it.key:Int),.int .u64 (it.val:Int)],.nilIface]))= .returned (.tuple #[zx Mv,.nilIface])∧Mod (cb::GC) V _∧tF W0 E H Kk M I b G0 w0 C GC mb gv a ids its id cb c V Mv _ from⟨it,rfl,hq6,c',cc,gU,q1,q2,q3,q4,fun q hq=>(q5 q hq).elim .inl (fun k=> .inr (by have:=HL.out;omega)),hq6⟩);clear hmm hr1 jC q1 q2 q3 q4 q5 q6 hq6 hp jT;unfold zx;go_wp2;refine bodyPost_ret (v:= .tuple #[.agg #[.int .i64 (it.st:Int),.int .u64 (it.key:Int),.int .u64 (it.val:Int)],.nilIface]) (by simp[results,Tryz.results71,go_sem,r0,r1,r2]) rfl HF.out
theorem acI {G:List Nat}{w:World}{gL:bF}(h:nV W0 E H Kk M I b G w a ids its gv gL)(hE6:dL E W0 6)(hi:⟨id,cb,c⟩∈its)(hok:c.ok):Calls Tryz.prog 38 #[.pointer (some ⟨b,0,none⟩),.int .i64 (id:Int)] w fun y w'=>∃it c' jG,y= .returned (.tuple #[zx it,.nilIface])∧jZ a.ents (jY a) c it c'∧Qr jG∧tC W0 E H Kk M I b G w w' a ids (kJ its id c') gv jG:=by
 obtain⟨C,GC,mb,hS,rfl,zW⟩:=h;obtain⟨W,hW,hB,hBm,hBr⟩:=qP w 40 #[.pointer (some ⟨b,0,none⟩)] 102 #[.int .i64 0,.int .u64 0,.int .u64 0];have hlt:=fun q hq=>(hS.iE q hq).1;have mV:=qd (show∀q,w.heap.size≤q→q∉eF b C GC mb its from fun q hq hg=>by have:=hlt q hg;omega);have HS:=qd (hS.below hB);have HX:=qd hBm;have HR:=qd hBr;have HB:=qd hB;have HW:=qd hW;have HI:=qd hi;have Le:=qd hok;have DL:=qd hS.ou.nd;have hbk:=(hS.below hB).blk.blk;unfold iw.cells at hbk;have c16:=hbk.cell 16;simp only[gl]at c16;have x0:=hBm.cell 0;simp only[List.getElem?_toArray,List.getElem?_cons_zero]at x0;have kP:=qd (Qs (hS.below hB).ou hi);have h6:W.cell? ⟨gE 6,0,none⟩=some (.iface 391 (.pointer (some (E 6)))):=(World.cell?_of_block ((hS.below hB).core.facts.2.2.2.2.2.2.2.2.2.2.2.below.block _ (World.block_lt_of_cell? W0 _ hE6))).trans hE6;have H6:=qd h6
 have HSl:=qd (show∀q∈cb::GC,q<w.heap.size from fun q hq=>by
  rcases List.mem_cons.1 hq with k|k
  ·rw[k];exact(hS.ou.cur _ hi).lt
  ·exact hlt q (aJ.2 (.inr (.inr k))))
 have HCb:=qd (show cb∈bH C.ib mb its from by
  unfold bH;simp only[List.mem_cons,List.mem_map]
  exact .inr (.inr ⟨_,hi,rfl⟩))
 clear hbk hW hB hBm hBr hS hi hok hlt zW h6;go_in;go_upto_region 1 with fail;rw[←HW.out];go_wp2_with fail;refine kP.out.mono ?_;rintro y w1 ⟨rfl,rfl⟩;clear kP x0 c16;go_upto_region 2 with fail;refine dQ 155 #[.pointer (some ⟨cb,0,none⟩)] ?_;rintro W1 ⟨hP,hb⟩;have h6:=aA hb H6.out;have HP:=qd hP;replace HS:=qd (HS.out.below hb);replace HX:=qB hb HX;replace HR:=qB hb HR;have HB1:=qd (bP hb HB.out);obtain⟨pc,hpc⟩:∃pc,pc=W.heap.size:=⟨_,rfl⟩;rw[←hpc]at HP⊢;have Ay:=qd hpc;replace H6:=qd h6;clear hP hb hpc h6;have p0:=HP.out.cell 0;simp only[List.getElem?_toArray,List.getElem?_cons_zero]at p0;have hdn:=F9 (HS.out.ou.cur _ HI.out);have HNr:=qd (show(w.heap.size+1)∉[b]from fun hg=>mV.out _ (by omega) (aJ.2 (.inl (List.mem_singleton.1 hg))));have Qj:=qd HNr.out;have x0:=HX.out.cell 0;simp only[List.getElem?_toArray,List.getElem?_cons_zero]at x0
 cases hd:c.done with
 |true=>
  rw[hd]at hdn;have HDn:=qd hdn;have Ml:=qd (show Calls Tryz.prog 31 #[.pointer (some ⟨b,0,none⟩),.agg #[.int .i64 0,.int .i64 0,.int .i64 0]] W1 _ from BZ HS.out.blk ⟨0,0,0⟩);have Ob:=qd (fun V=>ad8 (E 6) V);have XJ:=qd hd;clear hdn hd;go_wp2_with fail;refine HDn.out.mono ?_;rintro y w2 ⟨rfl,rfl⟩;clear HDn;go_wp2_with fail;refine Ml.out.mono ?_;rintro y w2 ⟨rfl,hB2,hm2⟩;have hs2:=HS.out.Vb hB2 hm2 ⟨rfl,rfl,rfl,rfl,rfl⟩
  have hgb:gE 6∉[b]:=fun hh=>by
   have h1:=World.block_lt_of_cell? W0 _ hE6;have h2:=HS.out.b0.1;rw[List.mem_singleton.1 hh]at h1;exact absurd h1 (by show¬b<W0.heap.size;omega)
  have h6:w2.cell? ⟨gE 6,0,none⟩=some (.iface 391 (.pointer (some (E 6)))):=(World.cell?_of_block (hm2.block _ (World.block_lt_of_cell? W1 _ H6.out) hgb)).trans H6.out;unfold gE at h6;have hr2:=HR.out.mod hm2 HNr.out;obtain⟨r0,r1,r2⟩:=hr2.c3;obtain⟨f0,f1,f2⟩:=hr2.f3;have HS2:=qd hs2;clear hs2 hB2 hm2 hgb hr2 Ml;go_wp2_with fail;refine(Ob.out _).mono ?_;rintro y w3 ⟨rfl,rfl⟩;clear Ob;have jC:=(((Mod.refl [w.heap.size+1] w2).ak (b:=w.heap.size+1) (.inl (by simp)) 0 (.int .i64 3)).ak (b:=w.heap.size+1) (.inl (by simp)) 1 (.int .u64 0)).ak (b:=w.heap.size+1) (.inl (by simp)) 2 (.int .u64 0);have hs3:=HS2.out.Eo jC (fun q hq=>by rw[List.mem_singleton.1 hq];exact⟨mV.out _ (by omega),by omega⟩);have hto:=hs3.to;have HF:=qd (show∃it c' jG,(Ending.returned (.tuple #[.agg #[.int .i64 3,.int .u64 0,.int .u64 0],.nilIface]))= .returned (.tuple #[zx it,.nilIface])∧jZ a.ents (jY a) c it c'∧Qr jG∧tC W0 E H Kk M I b (eF b C GC mb its) w _ a ids (kJ its id c') gv jG from⟨⟨3,0,0⟩,c,⟨0,0,0⟩,rfl,.done XJ.out,⟨by decide,by decide,rfl⟩,by rw[Vk DL.out HI.out];exact hto⟩);clear jC hs3 hto h6;go_wp2;refine bodyPost_ret (v:= .tuple #[.agg #[.int .i64 3,.int .u64 0,.int .u64 0],.nilIface]) (by simp[results,Tryz.results38,go_sem,r0,r1,r2]) rfl HF.out
 |false=>
  rw[hd]at hdn;have HDn:=qd hdn;have pW:∀(fn:Fn) (first cap:Array Value) (w:World),(Instr.makeFunc fn first cap).run Tryz.prog w= .ok (.func fn first cap) w:=fun _ _ _ _=>rfl
  have Wm:=qd (aaX (S:=cb::GC) (K:=fun V it w1=>tF W0 E H Kk M I b (eF b C GC mb its) w C GC mb gv a ids its id cb c V it w1) 71 #[.pointer (some ⟨w.heap.size,0,none⟩),.pointer (some ⟨pc,0,none⟩)] W1 (fun V=>enters_of Tryz.func71 (by kernel_rfl) rfl _ V) (fun q hq=>Nat.lt_of_lt_of_le (HSl.out q hq) HB1.out.size)
   (fun V rJ _=>aaY (HS.out.below rJ) (HX.out.mod (Mod.of_below rJ []) (by simp)) (HP.out.mod (Mod.of_below rJ []) (by simp)) HI.out hd Le.out))
  have Yd:=qd (show w.heap.size<W1.heap.size∧w.heap.size+1<W1.heap.size from⟨HX.out.lt,HR.out.lt⟩);clear hdn hd p0;have p0:=HP.out.cell 0;simp only[List.getElem?_toArray,List.getElem?_cons_zero]at p0;go_wp2_with fail;refine HDn.out.mono ?_;rintro y w2 ⟨rfl,rfl⟩;clear HDn;go_wp2_with fail;refine Wm.out.mono ?_;rintro y w3 ⟨V,it,w2,T,rfl,rJ,hmS,hst,hmT,hT⟩;have hxs:∀q,w.heap.size≤q→q<W1.heap.size→q∉cb::GC∧q∉T:=fun q h1 h2=>⟨fun hh=>by have:=HSl.out q hh;omega,fun hh=>by have:=(hT q hh).1;omega⟩;have hX3:=((HX.out.mod (Mod.of_below rJ []) (by simp)).mod hmS (hxs _ (Nat.le_refl _) Yd.out.1).1).mod hmT (hxs _ (Nat.le_refl _) Yd.out.1).2;have FR:=((HR.out.mod (Mod.of_below rJ []) (by simp)).mod hmS (hxs _ (by omega) Yd.out.2).1).mod hmT (hxs _ (by omega) Yd.out.2).2
  obtain⟨c',cc,gU,q1,q2,q3,q4,q5,q6⟩:=hst.mod hmT (fun q hq=>by
   have:=hT q hq;have:=HB1.out.size
   exact⟨mV.out q (by omega),by omega,by omega⟩)
  replace HX:=qd hX3;replace HR:=qd FR;replace HS:=qd q3;have yN:=qd q4;have jg:=qd (And.intro q1 q2);have HR4:=qd (show(w.heap.size+1)∉gU from fun hg=>(q5 _ hg).elim (fun k=>mV.out _ (by omega) (aJ.2 (.inr (.inr k)))) (fun k=>by have:=Yd.out.2;have:=rJ.size;omega));have OD:=qd (show∀q,w3.heap.size≤q→q≠b from fun q hq e=>by have:=q3.blk.lt;omega);clear hxs hX3 FR hst hmT hT hmS rJ q1 q2 q3 q4 q5 q6 Wm p0 x0;unfold zx;go_upto_region 8 with fail;refine dQ 102 #[.int .i64 (it.st:Int),.int .u64 (it.key:Int),.int .u64 (it.val:Int)] ?_;rintro W4 ⟨hO,hb⟩;replace HS:=qd (HS.out.below hb);replace yN:=qd (yN.out.below hb);replace HX:=qB hb HX;replace HR:=qB hb HR;have HO:=qd hO;have HNo:=qd (show w3.heap.size∉[b]from fun hh=>OD.out _ (Nat.le_refl _) (List.mem_singleton.1 hh));obtain⟨ob,nK⟩:∃ob,ob=w3.heap.size:=⟨_,rfl⟩;rw[←nK]at HO HNo⊢;clear hO hb nK;have hcc:=yN.out;have hbk:=HS.out.blk.blk;unfold iw.cells at hbk;have c3:=hbk.cell 3;simp only[gl]at c3;have x0:=HX.out.cell 0;simp only[List.getElem?_toArray,List.getElem?_cons_zero]at x0;have iG:=qd (Ko (hcc.below (Below.refl W4.heap.size W4).drew));unfold oJ at iG;clear hbk hcc;refine rT (fun(w':World)=>w'.cell? ⟨w.heap.size,0,none⟩=some (.pointer (some ⟨b,0,none⟩))∧w'.cell? ⟨b,3,none⟩=some (.pointer (some ⟨C.cb,0,none⟩))) [7] ?_;have hHeld:=(⟨x0,c3⟩:_∧_);refine vT 0 rfl ?_;refine nT 1 rfl fun K hK=> ?_;go_simp;refine kO hK ?_;clear hK K;refine vW 2 rfl ?_;refine vW 3 rfl ?_;refine nT 4 rfl fun K hK=> ?_;go_simp
  refine kO hK ?_;clear hK K;refine nT 5 rfl fun K hK=> ?_;go_simp;refine(Ca _ _).mono ?_;rintro y V1 ⟨rfl,rfl⟩;go_wp2_with fail;have hHeld:=(⟨x0,c3⟩:_∧_);refine kO hK ?_;clear hK K;refine nT 6 rfl fun K hK=> ?_;go_simp;refine(iG.out).mono ?_;rintro y V2 ⟨rfl,hb⟩;replace hb:Below W4.heap.size W4 V2:=bP hb (Below.refl _ _).drew;replace HS:=qd (HS.out.below hb);replace HR:=qB hb HR;replace HO:=qB hb HO;replace x0:=aA hb x0;replace c3:=aA hb c3;clear hb iG;go_wp2_with fail;have hHeld:=(⟨x0,c3⟩:_∧_);refine kO hK ?_;clear hK K;refine nT 7 rfl fun K hK=> ?_;go_simp;have vO:=qd (show Calls Tryz.prog 31 #[.pointer (some ⟨b,0,none⟩),.agg #[.int .i64 cc.p,.int .i64 cc.v,.int .i64 cc.u]] V2 _ from BZ HS.out.blk cc);refine(vO.out).mono ?_;rintro y V3 ⟨rfl,hwr,q3⟩;have kN:=qd (HS.out.Vb hwr q3 ⟨rfl,rfl,rfl,rfl,rfl⟩);replace HR:=qd (HR.out.mod q3 Qj.out);replace HO:=qd (HO.out.mod q3 HNo.out);clear hwr q3 vO HS x0 c3;go_wp2_with fail;refine kO hK ?_;clear hK K;refine aX (by kernel_rfl) ?_ _;have o0:=HO.out.cell 0;have o1:=HO.out.cell 1;have o2:=HO.out.cell 2;have r0:=HR.out.cell 0;have r1:=HR.out.cell 1;have r2:=HR.out.cell 2;simp only[gl]at o0 o1 o2 r0 r1 r2;obtain⟨f0,f1,f2⟩:=HR.out.f3;have jC:=(((Mod.refl [w.heap.size+1] V3).ak (b:=w.heap.size+1) (.inl (by simp)) 0 (.int .i64 (it.st:Int))).ak (b:=w.heap.size+1) (.inl (by simp)) 1 (.int .u64 (it.key:Int))).ak (b:=w.heap.size+1) (.inl (by simp)) 2 (.int .u64 (it.val:Int))
  have hs3:=kN.out.Eo jC (fun q hq=>by
   rw[List.mem_singleton.1 hq];refine⟨fun hg=> ?_,by omega⟩;have Am:=HR4.out;rcases aJ.1 hg with k|k|k
   ·exact mV.out _ (by omega) (aJ.2 (.inl k))
   ·rw[xu]at k;exact mV.out _ (by omega) (aJ.2 (.inr (.inl k)))
   ·exact Am k)
  have hto:=hs3.to;have HF:=qd (show∃Mv c' jG,(Ending.returned (.tuple #[.agg #[.int .i64 (it.st:Int),.int .u64 (it.key:Int),.int .u64 (it.val:Int)],.nilIface]))= .returned (.tuple #[zx Mv,.nilIface])∧jZ a.ents (jY a) c Mv c'∧Qr jG∧tC W0 E H Kk M I b (eF b C GC mb its) w _ a ids (kJ its id c') gv jG from⟨it,c',cc,rfl,jg.out.1,jg.out.2,hto⟩);clear jC hs3 hto;go_wp2;refine bodyPost_ret (v:= .tuple #[.agg #[.int .i64 (it.st:Int),.int .u64 (it.key:Int),.int .u64 (it.val:Int)],.nilIface]) (by simp[results,Tryz.results38,go_sem,r0,r1,r2]) rfl HF.out
end
section
theorem wD {m:ay}{h k:Nat}(hm:m.hash<h∨(m.hash=h∧m.key≤k)):(behind h k).passed m:=by
 unfold behind fZ.passed;split
 ·right;simp[bA];omega
 ·split
  ·right;simp[bA];omega
  ·left;rfl
section
variable {es : List ay} {hs : List Nat} {c c' : fZ} {i : Es}
theorem jZ.keeps (h:jZ es hs c i c'){e:ay}(he:e.hash<18446744073709551616∧e.key<18446744073709551616)(hp:c.passed e):c'.passed e:=by
 cases h with
 |done=>exact hp
 |yield hd hi m h1 h2 h3 h4 hm=>
  have hp2:bA e ⟨c.key,0,c.hash⟩=true:=hp.resolve_left (by rw[hd];simp);have hn:=hm.2.1;refine wD ?_;simp[bA]at hp2 hn;omega
 |skip hd hi h1 h2 h3 h4 hm=>
  have hp2:bA e ⟨c.key,0,c.hash⟩=true:=hp.resolve_left (by rw[hd];simp);refine wD ?_;simp[bA]at hp2;omega
theorem jZ.tells (h:jZ es hs c i c'):(i.st=1∧c.done=false∧∃m∈es,i.key=m.key∧i.val=m.val∧¬c.passed m∧c'.passed m)∨((i.st=2∨i.st=3)∧i.key=0∧i.val=0∧(i.st=3↔c'.done=true)∧(c.done=true→i.st=3)):=by
 cases h with
 |done hd=>exact .inr ⟨.inr rfl,rfl,rfl,by simp[hd],fun _=>rfl⟩
 |yield hd hi m h1 h2 h3 h4 hm=>
  refine .inl ⟨rfl,hd,m,(pz.1 hm.1).1,rfl,rfl,fun hp=> ?_,wD (.inr ⟨rfl,Nat.le_refl _⟩)⟩;have:=hp.resolve_left (by rw[hd];simp);rw[hm.2.1]at this;cases this
 |skip hd hi h1 h2 h3 h4 hm=>
  refine .inr ⟨by simp only;split<;>simp,rfl,rfl, ?_,fun h=>by rw[hd]at h;cases h⟩;unfold behind
  by_cases hlt:hi<18446744073709551615<;>simp[hlt]
instance (c:fZ)(e:ay):Decidable (c.passed e):=by unfold fZ.passed;infer_instance
def zA (es:List ay)(hs:List Nat)(c:fZ):Nat:=if c.done=true then 0 else(es.filter fun e=> !decide (c.passed e)).length+(hs.filter fun h=>decide (c.hash≤h)).length
theorem aea (es:List ay)(hs:List Nat)(c:fZ):zA es hs c≤es.length+hs.length:=by
 unfold zA;split
 ·exact Nat.zero_le _
 ·exact Nat.add_le_add (List.length_filter_le _ _) (List.length_filter_le _ _)
theorem filter_le {α:Type}{p q:α→Bool}:∀{l:List α},(∀x∈l,p x=true→q x=true)→(l.filter p).length≤(l.filter q).length
 | [],_=>Nat.le_refl _
 |x::l,h=>by
  have ih:=filter_le (l:=l) fun y hy=>h y (by simp[hy]);rw[List.filter_cons,List.filter_cons];have hx:=h x (by simp);split
  ·rename_i hp;rw[if_pos (hx hp)];simp;exact ih
  ·split
   ·simp;omega
   ·exact ih
theorem filter_lt {α:Type}{p q:α→Bool}:∀{l:List α},(∀x∈l,p x=true→q x=true)→(∃x∈l,q x=true∧p x=false)→(l.filter p).length<(l.filter q).length
 | [],_,h=>by obtain⟨_,h,_⟩:=h;cases h
 |x::l,h,hx=>by
  have hle:=filter_le (l:=l) fun y hy=>h y (by simp[hy]);rw[List.filter_cons,List.filter_cons];obtain⟨y,hy,h1,h2⟩:=hx;rcases List.mem_cons.1 hy with e|hy
  ·subst e;rw[if_neg (by rw[h2];simp),if_pos h1];simp;omega
  ·have hlt:=filter_lt (l:=l) (fun z hz=>h z (by simp[hz])) ⟨y,hy,h1,h2⟩;have hq:=h x (by simp);split
   ·rename_i hp;rw[if_pos (hq hp)];simp;exact hlt
   ·split
    ·simp;omega
    ·exact hlt
theorem jZ.zA (h:jZ es hs c i c')(hes:∀e∈es,e.hash<18446744073709551616∧e.key<18446744073709551616)(hne:i.st≠3):zA es hs c'<zA es hs c:=by
 have hk:=fun(e:ay) (he:e∈es) (hp:c.passed e)=>h.keeps (hes e he) hp;rcases h.tells with⟨_,hd,m,h2,_,_,h3,h4⟩|⟨hst,_,_,h3,h4⟩
 ·have hm1:1≤(es.filter fun e=> !decide (c.passed e)).length:=by
   have:m∈es.filter fun e=> !decide (c.passed e):=List.mem_filter.2 ⟨h2,by simp[h3]⟩;exact List.length_pos_of_mem this
  unfold Go.Proofs.YtjfgpnapccdnlaaGreatDoor.zA;rw[if_neg (show¬c.done=true by rw[hd];simp)];by_cases hd':c'.done=true
  ·rw[if_pos hd'];omega
  ·rw[if_neg hd']
   have e1:=filter_lt (l:=es) (p:=fun e=> !decide (c'.passed e)) (q:=fun e=> !decide (c.passed e)) (fun e he hp=>by
    simp at hp⊢;exact fun hq=>hp (hk e he hq)) ⟨m,h2,by simp[h3],by simp[h4]⟩
   have e2:(hs.filter fun h=>decide (c'.hash≤h)).length≤(hs.filter fun h=>decide (c.hash≤h)).length:=filter_le fun x _ hx=>by
    simp at hx⊢
    cases h with
    |yield hd hi m' g1 g2 g3 g4 hm=>
     have hn:=hm.2.1;simp[bA]at hn
     have:m'.hash≤(behind m'.hash m'.key).hash:=by
      unfold behind;split
      ·exact Nat.le_refl _
      ·split
       ·exact Nat.le_succ _
       ·rename_i a b;exact absurd (by unfold behind;rw[if_neg a,if_neg b]) hd'
     omega
    |done hd2=>rw[hd]at hd2;cases hd2
    |skip hd2 x g1 g2 g3=>
     have:x≤(behind x 18446744073709551615).hash:=by
      unfold behind;rw[if_neg (by omega)];split
      ·exact Nat.le_succ _
      ·rename_i b;exact absurd (by unfold behind;rw[if_neg (by omega),if_neg b]) hd'
     omega
   omega
 ·have hd:c.done=false:=by
   cases hd:c.done with
   |false=>rfl
   |true=>exact absurd (h4 hd) hne
  have hd':¬c'.done=true:=fun e=>hne (h3.2 e);unfold Go.Proofs.YtjfgpnapccdnlaaGreatDoor.zA;rw[if_neg (show¬c.done=true by rw[hd];simp),if_neg hd']
  have e1:(es.filter fun e=> !decide (c'.passed e)).length≤(es.filter fun e=> !decide (c.passed e)).length:=filter_le fun e he hp=>by
   simp at hp⊢;exact fun hq=>hp (hk e he hq)
  have e2:(hs.filter fun h=>decide (c'.hash≤h)).length<(hs.filter fun h=>decide (c.hash≤h)).length:=by
   cases h with
   |done hd2=>rw[hd]at hd2;cases hd2
   |yield hd2 x m g1 g2 g3 g4 hm=>
    rcases hst with k|k<;>cases k
   |skip hd2 x g1 g2 g3 g4 hm=>
    have hx:x<18446744073709551615:=by
     by_cases hlt:x<18446744073709551615
     ·exact hlt
     ·exact absurd (by unfold behind;rw[if_neg (by omega),if_neg hlt]) hd'
    have hb:(behind x 18446744073709551615).hash=x+1:=by
     unfold behind;rw[if_neg (by omega),if_pos hx]
    rw[hb];exact filter_lt (fun y _ hy=>by simp at hy⊢;omega) ⟨x,g2,by simpa using g1,by simp⟩
  omega
end
end
end Go.Proofs.YtjfgpnapccdnlaaGreatDoor
