/- A map's Next, and a new map, by their contracts. No statement of the claim. -/
import Derived.Test.YtkddpchpcepjgaaGreatDoorRmG
import Ieee.Arith
namespace Go.Proofs.YtkddpchpcepjgaaGreatDoor
set_option maxRecDepth 100000
set_option maxHeartbeats 4000000
open Go.RowKit cu Ieee
variable {its : List It} {I Kk M b cb gv id : Nat} {c : jl} {W0 : World} {E : Nat -> Addr} {H : Nat -> Nat} {a : Pool} {ids : List Nat}
theorem VF (hn:(its.map It.id).Nodup)(hi:⟨id,cb,c⟩∈its):jY its id c=its:=by
 unfold jY
 conv=>rhs;rw[<-List.map_id its]
 apply jx;intro i hi';by_cases h:i.id=id
 ·rw[if_pos h,um hn hi' hi h];rfl
 ·rw[if_neg h];rfl
theorem aby {G0:List Nat}{w0 V:World}{C:fJ}{GC:List Nat}{mb:Nat}{pm pc:Nat}(hS:gG W0 E H Kk M I b G0 w0 C GC mb gv V a ids its)(hm:aj V pm 57 #[pQ b])(hc:aj V pc 195 #[pQ cb])(hi:⟨id,cb,c⟩∈its)(hd:c.done=false)(hok:c.ok):Calls Tryz.prog 107 #[pQ pm,pQ pc] V λy w'=>∃it,y= .returned (.tuple #[BJ it,.nilIface])/\Mod (cb::GC) V w'/\uo W0 E H Kk M I b G0 w0 C GC mb gv a ids its id cb c V it w':=by
 have hsl:=hS.fC;have hW0:=hS.mod.size;have hB:=(Below.refl V.heap.size V).alloc (zb _) (.cells #[.int .i64 0,.int .u64 0,.int .u64 0] 145);have hR:=aj.new V 145 #[.int .i64 0,.int .u64 0,.int .u64 0];obtain⟨W,hW⟩:∃W,W=V.alloc (.cells #[.int .i64 0,.int .u64 0,.int .u64 0] 145):=⟨_,rfl⟩;rw[<-hW]at hB hR;have hst:=adt (hS.below hB) hi hd hok;have iV:=qd hst;have HR:=qd hR;have HW:=qd hW;have HB:=qd hB;have HNf:=qd (show V.heap.size∉eD b C GC mb its from λhg=>by have:=(hsl _ hg).1;omega)
 have TK:=qd (show V.heap.size∉cb::GC from λhg=>by
  rcases zt.1 hg with k|k
  ·have:cb<V.heap.size:=(hS.lS.cur _ hi).lt;omega
  ·have:=(hsl _ (aG.2 (.inr (.inr k)))).1;omega)
 have HL:=qd (show V.heap.size<W.heap.size from hR.lt)
 have HCb:=qd (show cb∈bD C.ib mb its from by
  unfold bD;simp only[zt,Z3]
  exact .inr (.inr ⟨_,hi,rfl⟩))
 have HW0:=qd hW0;have x0:=(hm.mod (Mod.of_below hB []) (by simp)).cell 0;have y0:=(hc.mod (Mod.of_below hB []) (by simp)).cell 0;simp only[zr,zc]at x0 y0;clear hst hR hW hB hS hi hd hok hm hc hsl hW0;go_in;go_upto_region 1 with fail;rw[<-HW.o];go_wp2_with fail;refine iV.o.mono ?_;rintro y w1 ⟨it,rfl,hp⟩
 have hmm:Mod (cb::GC) W w1:=by obtain⟨_,_,_,_,_,_,_,_,q⟩:=hp;exact q
 have hr1:=HR.o.mod hmm TK.o;obtain⟨r0,r1,r2⟩:=hr1.c3;obtain⟨f0,f1,f2⟩:=hr1.f3;have dz:=(((Mod.refl [V.heap.size] w1).ak (b:=V.heap.size) (.inl (by simp)) 0 (nI it.st)).ak (b:=V.heap.size) (.inl (by simp)) 1 (nU it.key)).ak (b:=V.heap.size) (.inl (by simp)) 2 (nU it.val);obtain⟨c',cc,fT,q1,q2,q3,q4,q5,q6⟩:=hp.mod dz (λq hq=>by rw[zj.1 hq];exact⟨HNf.o,HW0.o,HL.o⟩)
 have hq6:=(Mod.of_below HB.o (cb::GC)).trans q6 (λq hq _=>hq) (λq hq hl=>by
  rcases zt.1 hq with k|k
  ·rw[k];simp
  ·rcases Zs.1 k with k|k
   ·exact qu _ k
   ·rw[zj.1 k]at hl;omega)
 have HF:=qd (show∃MZ,(Ending.returned (.tuple #[.agg #[nI it.st,nU it.key,nU it.val],.nilIface]))= .returned (.tuple #[BJ MZ,.nilIface])/\Mod (cb::GC) V _/\uo W0 E H Kk M I b G0 w0 C GC mb gv a ids its id cb c V MZ _ from⟨it,rfl,hq6,c',cc,fT,q1,q2,q3,q4,λq hq=>(q5 q hq).elim .inl (λk=> .inr (by have:=HL.o;omega)),hq6⟩);clear hmm hr1 dz q1 q2 q3 q4 q5 q6 hq6 hp iV;unfold BJ;go_wp2;refine bodyPost_ret (v:= .tuple #[.agg #[nI it.st,nU it.key,nU it.val],.nilIface]) (by simp[results,Tryz.results107,go_sem,r0,r1,r2]) rfl HF.o
theorem adw {G:List Nat}{w:World}{fK:bE}(h:kY W0 E H Kk M I b G w a ids its gv fK)(GD:bY E W0 6)(hi:⟨id,cb,c⟩∈its)(hok:c.ok):Calls Tryz.prog 77 #[pQ b,nI id] w λy w'=>∃it c' jM,y= .returned (.tuple #[BJ it,.nilIface])/\mO a.ents (zW a) c it c'/\QC jM/\qo W0 E H Kk M I b G w w' a ids (jY its id c') gv jM:=by
 obtain⟨C,GC,mb,hS,rfl,om⟩:=h;obtain⟨W,hW,hB,hBm,hBr⟩:=lI w 57 #[pQ b] 145 #[.int .i64 0,.int .u64 0,.int .u64 0];have hlt:=λq hq=>(hS.fC q hq).1;have jr:=qd (show∀q,w.heap.size<=q->q∉eD b C GC mb its from λq hq hg=>by have:=hlt q hg;omega);have HS:=qd (hS.below hB);have HX:=qd hBm;have HR:=qd hBr;have HB:=qd hB;have HW:=qd hW;have HI:=qd hi;have LW:=qd hok;have O5:=qd hS.lS.nd;have hbk:=(hS.below hB).blk.blk;unfold fJ.cells at hbk;have c16:=hbk.cell 16;simp only[gl]at c16;have x0:=hBm.cell 0;simp only[zr,zc]at x0;have jH:=qd (QE (hS.below hB).lS hi);have h6:W.cell? ⟨gE 6,0,none⟩=some (.iface 333 (.pointer (some (E 6)))):=(World.cell?_of_block ((hS.below hB).core.facts.2.2.2.2.2.2.2.2.2.2.2.below.block _ (qt W0 _ GD))).trans GD;have H6:=qd h6
 have HSl:=qd (show∀q∈cb::GC,q<w.heap.size from λq hq=>by
  rcases zt.1 hq with k|k
  ·rw[k];exact(hS.lS.cur _ hi).lt
  ·exact hlt q (aG.2 (.inr (.inr k))))
 have HCb:=qd (show cb∈bD C.ib mb its from by
  unfold bD;simp only[zt,Z3]
  exact .inr (.inr ⟨_,hi,rfl⟩))
 clear hbk hW hB hBm hBr hS hi hok hlt om h6;go_in;go_upto_region 1 with fail;rw[<-HW.o];go_wp2_with fail;refine jH.o.mono ?_;rintro y w1 ⟨rfl,rfl⟩;clear jH x0 c16;go_upto_region 2 with fail;refine dL 195 #[pQ cb] ?_;rintro W1 ⟨hP,hb⟩;have h6:=aA hb H6.o;have HP:=qd hP;replace HS:=qd (HS.o.below hb);replace HX:=qB hb HX;replace HR:=qB hb HR;have HB1:=qd (bN hb HB.o);obtain⟨pc,hpc⟩:∃pc,pc=W.heap.size:=⟨_,rfl⟩;rw[<-hpc]at HP|-;have Bp:=qd hpc;replace H6:=qd h6;clear hP hb hpc h6;have p0:=HP.o.cell 0;simp only[zr,zc]at p0;have hdn:=Gy (HS.o.lS.cur _ HI.o);have HNr:=qd (show(w.heap.size+1)∉[b]from λhg=>jr.o _ (by omega) (aG.2 (.inl (zj.1 hg))));have JR:=qd HNr.o;have x0:=HX.o.cell 0;simp only[zr,zc]at x0
 cases hd:c.done with
 |true=>
  rw[hd]at hdn;have HDn:=qd hdn;have EM:=qd (show Calls Tryz.prog 48 #[pQ b,.agg #[.int .i64 0,.int .i64 0,.int .i64 0]] W1 _ from vH HS.o.blk ⟨0,0,0⟩);have Gv:=qd (λV=>ae0 (E 6) V);have X5:=qd hd;clear hdn hd;go_wp2_with fail;refine HDn.o.mono ?_;rintro y w2 ⟨rfl,rfl⟩;clear HDn;go_wp2_with fail;refine EM.o.mono ?_;rintro y w2 ⟨rfl,hB2,hm2⟩;have hs2:=HS.o.EO hB2 hm2 ⟨rfl,rfl,rfl,rfl,rfl⟩
  have hgb:gE 6∉[b]:=λhh=>by
   have h1:=qt W0 _ GD;have h2:=HS.o.b0.1;rw[zj.1 hh]at h1;exact absurd h1 (by show¬b<W0.heap.size;omega)
  have h6:w2.cell? ⟨gE 6,0,none⟩=some (.iface 333 (.pointer (some (E 6)))):=(World.cell?_of_block (hm2.block _ (qt W1 _ H6.o) hgb)).trans H6.o;unfold gE at h6;have hr2:=HR.o.mod hm2 HNr.o;obtain⟨r0,r1,r2⟩:=hr2.c3;obtain⟨f0,f1,f2⟩:=hr2.f3;have HS2:=qd hs2;clear hs2 hB2 hm2 hgb hr2 EM;go_wp2_with fail;refine(Gv.o _).mono ?_;rintro y w3 ⟨rfl,rfl⟩;clear Gv;have dz:=(((Mod.refl [w.heap.size+1] w2).ak (b:=w.heap.size+1) (.inl (by simp)) 0 (.int .i64 3)).ak (b:=w.heap.size+1) (.inl (by simp)) 1 (.int .u64 0)).ak (b:=w.heap.size+1) (.inl (by simp)) 2 (.int .u64 0);have hs3:=HS2.o.AB dz (λq hq=>by rw[zj.1 hq];exact⟨jr.o _ (by omega),by omega⟩);have hto:=hs3.to;have HF:=qd (show∃it c' jM,(Ending.returned (.tuple #[.agg #[.int .i64 3,.int .u64 0,.int .u64 0],.nilIface]))= .returned (.tuple #[BJ it,.nilIface])/\mO a.ents (zW a) c it c'/\QC jM/\qo W0 E H Kk M I b (eD b C GC mb its) w _ a ids (jY its id c') gv jM from⟨⟨3,0,0⟩,c,⟨0,0,0⟩,rfl,.done X5.o,⟨by decide,by decide,rfl⟩,by rw[VF O5.o HI.o];exact hto⟩);clear dz hs3 hto h6;go_wp2;refine bodyPost_ret (v:= .tuple #[.agg #[.int .i64 3,.int .u64 0,.int .u64 0],.nilIface]) (by simp[results,Tryz.results77,go_sem,r0,r1,r2]) rfl HF.o
 |false=>
  rw[hd]at hdn;have HDn:=qd hdn;have p9:∀(fn:Fn) (first cap:Array Value) (w:World),(Instr.makeFunc fn first cap).run Tryz.prog w= .ok (.func fn first cap) w:=λ_ _ _ _=>rfl
  have WI:=qd (abx (S:=cb::GC) (K:=λV it w1=>uo W0 E H Kk M I b (eD b C GC mb its) w C GC mb gv a ids its id cb c V it w1) 107 #[pQ w.heap.size,pQ pc] W1 (λV=>enters_of Tryz.func107 (by kernel_rfl) rfl _ V) (λq hq=>yp (HSl.o q hq) HB1.o.size)
   (λV sD _=>aby (HS.o.below sD) (HX.o.mod (Mod.of_below sD []) (by simp)) (HP.o.mod (Mod.of_below sD []) (by simp)) HI.o hd LW.o))
  have YB:=qd (show w.heap.size<W1.heap.size/\w.heap.size+1<W1.heap.size from⟨HX.o.lt,HR.o.lt⟩);clear hdn hd p0;have p0:=HP.o.cell 0;simp only[zr,zc]at p0;go_wp2_with fail;refine HDn.o.mono ?_;rintro y w2 ⟨rfl,rfl⟩;clear HDn;go_wp2_with fail;refine WI.o.mono ?_;rintro y w3 ⟨V,it,w2,T,rfl,sD,hmS,hst,hmT,hT⟩;have hxs:∀q,w.heap.size<=q->q<W1.heap.size->q∉cb::GC/\q∉T:=λq h1 h2=>⟨λhh=>by have:=HSl.o q hh;omega,λhh=>by have:=(hT q hh).1;omega⟩;have YC:=((HX.o.mod (Mod.of_below sD []) (by simp)).mod hmS (hxs _ (zb _) YB.o.1).1).mod hmT (hxs _ (zb _) YB.o.1).2;have oF:=((HR.o.mod (Mod.of_below sD []) (by simp)).mod hmS (hxs _ (by omega) YB.o.2).1).mod hmT (hxs _ (by omega) YB.o.2).2
  obtain⟨c',cc,fT,q1,q2,q3,q4,q5,q6⟩:=hst.mod hmT (λq hq=>by
   have:=hT q hq;have:=HB1.o.size
   exact⟨jr.o q (by omega),by omega,by omega⟩)
  replace HX:=qd YC;replace HR:=qd oF;replace HS:=qd q3;have uW:=qd q4;have lJ:=qd (And.intro q1 q2);have HR4:=qd (show(w.heap.size+1)∉fT from λhg=>(q5 _ hg).elim (λk=>jr.o _ (by omega) (aG.2 (.inr (.inr k)))) (λk=>by have:=YB.o.2;have:=sD.size;omega));have OV:=qd (show∀q,w3.heap.size<=q->q≠b from λq hq e=>by have:=q3.blk.lt;omega);clear hxs YC oF hst hmT hT hmS sD q1 q2 q3 q4 q5 q6 WI p0 x0;unfold BJ;go_upto_region 8 with fail;refine dL 145 #[nI it.st,nU it.key,nU it.val] ?_;rintro W4 ⟨hO,hb⟩;replace HS:=qd (HS.o.below hb);replace uW:=qd (uW.o.below hb);replace HX:=qB hb HX;replace HR:=qB hb HR;have HO:=qd hO;have HNo:=qd (show w3.heap.size∉[b]from λhh=>OV.o _ (zb _) (zj.1 hh));obtain⟨ob,nA⟩:∃ob,ob=w3.heap.size:=⟨_,rfl⟩;rw[<-nA]at HO HNo|-;clear hO hb nA;have hcc:=uW.o;have hbk:=HS.o.blk.blk;unfold fJ.cells at hbk;have c3:=hbk.cell 3;simp only[gl]at c3;have x0:=HX.o.cell 0;simp only[zr,zc]at x0;have fE:=qd (BI (hcc.below (Below.refl W4.heap.size W4).drew));unfold nL at fE;clear hbk hcc;refine rT (λ(w':World)=>w'.cell? ⟨w.heap.size,0,none⟩=some (pQ b)/\w'.cell? ⟨b,3,none⟩=some (pQ C.cb)) [7] ?_;have hHeld:=(⟨x0,c3⟩:_/\_);refine vT 0 rfl ?_;refine nT 1 rfl λK hK=> ?_;go_simp;refine kO hK ?_;clear hK K;refine vW 2 rfl ?_;refine vW 3 rfl ?_;refine nT 4 rfl λK hK=> ?_;go_simp;refine kO hK ?_;clear hK K;refine nT 5 rfl λK hK=> ?_;go_simp;refine(uj _ _).mono ?_
  rintro y V1 ⟨rfl,rfl⟩;go_wp2_with fail;have hHeld:=(⟨x0,c3⟩:_/\_);refine kO hK ?_;clear hK K;refine nT 6 rfl λK hK=> ?_;go_simp;refine(fE.o).mono ?_;rintro y V2 ⟨rfl,hb⟩;replace hb:Below W4.heap.size W4 V2:=bN hb (Below.refl _ _).drew;replace HS:=qd (HS.o.below hb);replace HR:=qB hb HR;replace HO:=qB hb HO;replace x0:=aA hb x0;replace c3:=aA hb c3;clear hb fE;go_wp2_with fail;have hHeld:=(⟨x0,c3⟩:_/\_);refine kO hK ?_;clear hK K;refine nT 7 rfl λK hK=> ?_;go_simp;have lD:=qd (show Calls Tryz.prog 48 #[pQ b,.agg #[.int .i64 cc.p,.int .i64 cc.v,.int .i64 cc.u]] V2 _ from vH HS.o.blk cc);refine(lD.o).mono ?_;rintro y V3 ⟨rfl,hwr,q3⟩;have kS:=qd (HS.o.EO hwr q3 ⟨rfl,rfl,rfl,rfl,rfl⟩);replace HR:=qd (HR.o.mod q3 JR.o);replace HO:=qd (HO.o.mod q3 HNo.o);clear hwr q3 lD HS x0 c3;go_wp2_with fail;refine kO hK ?_;clear hK K;refine aV (by kernel_rfl) ?_ _;have o0:=HO.o.cell 0;have o1:=HO.o.cell 1;have o2:=HO.o.cell 2;have r0:=HR.o.cell 0;have r1:=HR.o.cell 1;have r2:=HR.o.cell 2;simp only[gl]at o0 o1 o2 r0 r1 r2;obtain⟨f0,f1,f2⟩:=HR.o.f3;have dz:=(((Mod.refl [w.heap.size+1] V3).ak (b:=w.heap.size+1) (.inl (by simp)) 0 (nI it.st)).ak (b:=w.heap.size+1) (.inl (by simp)) 1 (nU it.key)).ak (b:=w.heap.size+1) (.inl (by simp)) 2 (nU it.val)
  have hs3:=kS.o.AB dz (λq hq=>by
   rw[zj.1 hq];refine⟨λhg=> ?_,by omega⟩;have oU:=HR4.o;rcases aG.1 hg with k|k|k
   ·exact jr.o _ (by omega) (aG.2 (.inl k))
   ·rw[yg]at k;exact jr.o _ (by omega) (aG.2 (.inr (.inl k)))
   ·exact oU k)
  have hto:=hs3.to;have HF:=qd (show∃MZ c' jM,(Ending.returned (.tuple #[.agg #[nI it.st,nU it.key,nU it.val],.nilIface]))= .returned (.tuple #[BJ MZ,.nilIface])/\mO a.ents (zW a) c MZ c'/\QC jM/\qo W0 E H Kk M I b (eD b C GC mb its) w _ a ids (jY its id c') gv jM from⟨it,c',cc,rfl,lJ.o.1,lJ.o.2,hto⟩);clear dz hs3 hto;go_wp2;refine bodyPost_ret (v:= .tuple #[.agg #[nI it.st,nU it.key,nU it.val],.nilIface]) (by simp[results,Tryz.results77,go_sem,r0,r1,r2]) rfl HF.o
end Go.Proofs.YtkddpchpcepjgaaGreatDoor

/-! Next of an iterator that there isn't. No statement of the claim. -/
namespace Go.Proofs.YtkddpchpcepjgaaGreatDoor
set_option maxRecDepth 100000
set_option maxHeartbeats 4000000
open Go.RowKit cu Ieee
theorem QN {W0:World}{E:Nat->Addr}{H:Nat->Nat}{Kk M I b:Nat}{G:List Nat}{w:World}{a:Pool}{ids:List Nat}{its:List It}{gv:Nat}{fK:bE}{id:Int}(h:kY W0 E H Kk M I b G w a ids its gv fK)(GD:bY E W0 6)(hn:∀i∈its,(i.id:Int)≠id):Calls Tryz.prog 77 #[pQ b,.int .i64 id] w λy w'=>y= .returned (.tuple #[.agg #[.int .i64 0,.int .u64 0,.int .u64 0],.iface 333 (.pointer (some (E 6)))])/\qo W0 E H Kk M I b G w w' a ids its gv ⟨0,0,0⟩:=by
 obtain⟨C,GC,mb,hS,rfl,om⟩:=h;obtain⟨W,hW,hB,hBm,hBr⟩:=lI w 57 #[pQ b] 145 #[.int .i64 0,.int .u64 0,.int .u64 0];have hlt:=λq hq=>(hS.fC q hq).1;have jr:=qd (show∀q,w.heap.size<=q->q∉eD b C GC mb its from λq hq hg=>by have:=hlt q hg;omega);have HS:=qd (hS.below hB);have HX:=qd hBm;have HR:=qd hBr;have HB:=qd hB;have HW:=qd hW;have hbk:=(hS.below hB).blk.blk;unfold fJ.cells at hbk;have c16:=hbk.cell 16;simp only[gl]at c16;have x0:=hBm.cell 0;simp only[zr,zc]at x0;have h6:W.cell? ⟨gE 6,0,none⟩=some (.iface 333 (.pointer (some (E 6)))):=(World.cell?_of_block ((hS.below hB).core.facts.2.2.2.2.2.2.2.2.2.2.2.below.block _ (qt W0 _ GD))).trans GD;have jH:=qd (Dq (hS.below hB).lS hn h6);have H6:=qd h6;clear hbk hW hB hBm hBr hS hlt om h6 hn;go_in;go_upto_region 1 with fail;rw[<-HW.o];go_wp2_with fail;refine jH.o.mono ?_;rintro y w1 ⟨rfl,hb1⟩;replace H6:=qd (aA hb1 H6.o);replace HS:=qd (HS.o.below hb1);replace HX:=qB hb1 HX;replace HR:=qB hb1 HR;replace HB:=qd (bN hb1 HB.o);clear jH x0 c16 hb1 HW;go_upto_region 2 with fail;refine dL 195 #[.pointer none] ?_;rintro W1 ⟨hP,hb⟩;have h6:=aA hb H6.o;replace HS:=qd (HS.o.below hb);replace HX:=qB hb HX;replace HR:=qB hb HR;have HB1:=qd (bN hb HB.o);obtain⟨pc,hpc⟩:∃pc,pc=w1.heap.size:=⟨_,rfl⟩;rw[<-hpc];replace H6:=qd h6;clear hP hb hpc h6
 have HNr:=qd (show(w.heap.size+1)∉[b]from λhg=>jr.o _ (by omega) (aG.2 (.inl (zj.1 hg))));have x0:=HX.o.cell 0;simp only[zr,zc]at x0;have EM:=qd (show Calls Tryz.prog 48 #[pQ b,.agg #[.int .i64 0,.int .i64 0,.int .i64 0]] W1 _ from vH HS.o.blk ⟨0,0,0⟩);have Gv:=qd (λV=>Ku (E 6) V);go_wp2_with fail;refine EM.o.mono ?_;rintro y w2 ⟨rfl,hB2,hm2⟩;have hs2:=HS.o.EO hB2 hm2 ⟨rfl,rfl,rfl,rfl,rfl⟩
 have hgb:gE 6∉[b]:=λhh=>by
  have h1:=qt W0 _ GD;have h2:=HS.o.b0.1;rw[zj.1 hh]at h1;exact absurd h1 (by show¬b<W0.heap.size;omega)
 have h6:w2.cell? ⟨gE 6,0,none⟩=some (.iface 333 (.pointer (some (E 6)))):=(World.cell?_of_block (hm2.block _ (qt W1 _ H6.o) hgb)).trans H6.o;unfold gE at h6;have hr2:=HR.o.mod hm2 HNr.o;obtain⟨r0,r1,r2⟩:=hr2.c3;obtain⟨f0,f1,f2⟩:=hr2.f3;have HS2:=qd hs2;clear hs2 hB2 hm2 hgb hr2 EM;go_wp2_with fail;refine(Gv.o _).mono ?_;rintro y w3 ⟨rfl,rfl⟩;clear Gv;have dz:=(((Mod.refl [w.heap.size+1] w2).ak (b:=w.heap.size+1) (.inl (by simp)) 0 (.int .i64 0)).ak (b:=w.heap.size+1) (.inl (by simp)) 1 (.int .u64 0)).ak (b:=w.heap.size+1) (.inl (by simp)) 2 (.int .u64 0);have hs3:=HS2.o.AB dz (λq hq=>by rw[zj.1 hq];exact⟨jr.o _ (by omega),by omega⟩);have HF:=qd hs3.to;clear dz hs3 h6;go_wp2;refine bodyPost_ret (v:= .tuple #[.agg #[.int .i64 0,.int .u64 0,.int .u64 0],.iface 333 (.pointer (some (E 6)))]) (by simp[results,Tryz.results77,go_sem,r0,r1,r2]) rfl ⟨rfl,HF.o⟩
end Go.Proofs.YtkddpchpcepjgaaGreatDoor

/-! The plain law of floats below 2 to the 50th: what is exact, and what rounding to the nearest whole number gives. No program in sight. -/
namespace Go.Proofs.YtkddpchpcepjgaaGreatDoor.wV
set_option maxRecDepth 100000
set_option maxHeartbeats 4000000
open Go.RowKit cu Ieee
variable {m w : Nat}
def ae2 (w:Nat):Nat:=if w<4503599627370496 then w else 4503599627370496+w % 4503599627370496
def VG (w:Nat):Nat:=if w<4503599627370496 then 1074 else 1075-w/4503599627370496
def Low (w:Nat):Prop:=w<=4832362400168542208
def whole (w:Nat):Nat:=ae2 w/2^VG w
def xY (w:Nat):Nat:=ae2 w % 2^VG w
def rounded (w:Nat):Nat:=whole w+if 2^VG w<=2*xY w then 1 else 0
def agY (w:Nat):Nat:=
 if w/4503599627370496<1023 then(if w/4503599627370496=1022 then 4607182418800017408 else 0)
 else(w+2^(51-(w/4503599627370496-1023)))/2^(52-(w/4503599627370496-1023))*2^(52-(w/4503599627370496-1023))
end Go.Proofs.YtkddpchpcepjgaaGreatDoor.wV
