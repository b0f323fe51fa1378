/- A map's Next by its contract. No statement of the claim. -/
import Derived.Test.YtbfpfgfgfjhpfaaGreatDoorRmE
import Derived.Test.YtbfpfgfgfjhpfaaGreatDoorPlA
import Derived.Test.YtbfpfgfgfjhpfaaGreatDoorCoG
import Derived.Test.YtbfpfgfgfjhpfaaGreatDoorSq
import Derived.Test.YtbfpfgfgfjhpfaaGreatDoorRmP
namespace Go.Proofs.YtbfpfgfgfjhpfaaGreatDoor
set_option maxRecDepth 100000
set_option maxHeartbeats 4000000
open Go.RowKit dP
section
def wI (i:AY):Value:= .agg #[.int .i64 (i.st:Int),.int .u64 (i.key:Int),.int .u64 (i.val:Int)]
def j5 (its:List It)(id:Nat)(c:gq):List It:=its.map fun i=>if i.id=id then{i with c:=c} else i
theorem QL {its:List It}(hn:(its.map It.cb).Nodup){i j:It}(hi:i∈its)(hj:j∈its)(h:i.cb=j.cb):i=j:=by
 induction its with
 |nil=>cases hi
 |cons x l ih=>
  rw[List.map_cons,List.nodup_cons]at hn;rcases List.mem_cons.1 hi with h1|h1
  ·rcases List.mem_cons.1 hj with h2|h2
   ·rw[h1,h2]
   ·exact absurd (show x.cb∈l.map It.cb from by rw[←h1,h];exact List.mem_map_of_mem h2) hn.1
  ·rcases List.mem_cons.1 hj with h2|h2
   ·exact absurd (show x.cb∈l.map It.cb from by rw[←h2,←h];exact List.mem_map_of_mem h1) hn.1
   ·exact ih hn.2 h1 h2
section
variable {w w' : World} {ib mb most given id cb : Nat} {its : List It} {c c' : gq}
theorem PD:(j5 its id c).map It.id=its.map It.id:=by
 unfold j5;rw[List.map_map];apply List.map_congr_left;intro i _;simp only[Function.comp_apply]
 split<;>rfl
theorem ZY:(j5 its id c).map It.cb=its.map It.cb:=by
 unfold j5;rw[List.map_map];apply List.map_congr_left;intro i _;simp only[Function.comp_apply]
 split<;>rfl
theorem xg:bQ ib mb (j5 its id c)=bQ ib mb its:=by unfold bQ;rw[ZY]
theorem Xp:iR (j5 its id c)=iR its:=by
 unfold iR j5;rw[List.map_map];apply List.map_congr_left;intro i _;simp only[Function.comp_apply]
 split<;>rfl
theorem iw.setCur (h:iw w ib mb most given its)(hi:⟨id,cb,c⟩∈its)(hc:fT w' cb c'){S:List Nat}(hm:Mod S w w')(hS:∀q∈S,q=cb∨q∉bQ ib mb its):iw w' ib mb most given (j5 its id c'):=by
 have hnf:=h.nf;unfold bQ at hnf;rw[List.nodup_cons,List.nodup_cons]at hnf;have adn:cb∈its.map It.cb:=List.mem_map.2 ⟨_,hi,rfl⟩;have h1:ib∉S:=fun hh=>(hS _ hh).elim (fun k=>hnf.1 (by rw[k];exact List.mem_cons_of_mem _ adn)) (fun k=>k (by simp[bQ]));have h2:mb∉S:=fun hh=>(hS _ hh).elim (fun k=>hnf.2.1 (by rw[k];exact adn)) (fun k=>k (by simp[bQ]));refine⟨h.blk.mod hm h1,by rw[Xp];exact h.map.mod hm h2,fun i hi'=> ?_,fun i hi'=> ?_,by rw[PD];exact h.nd,by rw[xg];exact h.nf,h.few.1,by unfold j5;rw[List.length_map];exact h.few.2⟩
 ·unfold j5 at hi';obtain⟨j,hj,rfl⟩:=List.mem_map.1 hi';by_cases hid:j.id=id
  ·rw[if_pos hid];have:=yG h.nd hj hi hid;rw[this];exact hc
  ·rw[if_neg hid];refine(h.cur j hj).mod hm (fun hh=>hid ?_);have hcb:j.cb=cb:=(hS _ hh).elim (fun k=>k) (fun k=>absurd (by unfold bQ;simp only[List.mem_cons];exact .inr (.inr (List.mem_map_of_mem hj))) k);have hn:(its.map It.cb).Nodup:=hnf.2.2;exact congrArg It.id (QL hn hj hi hcb)
 ·have:i.id∈its.map It.id:=by rw[←PD (id:=id) (c:=c')];exact List.mem_map_of_mem hi'
  obtain⟨j,hj,hji⟩:=List.mem_map.1 this;rw[←hji];exact h.ids j hj
end
def tK (W0:World)(E:Nat→Addr)(H:Nat→Nat)(Kk M I b:Nat)(G0:List Nat)(w0:World)(C:iE)(GC:List Nat)(mb gv:Nat)(a:Pool)(ids:List Nat)(its:List It)(id cb:Nat)(c:gq)(V:World)(it:AY)(w':World):Prop:=
 ∃(c':gq) (cc:bE) (iF:List Nat),iT a.ents (fI a) c it c'∧Pq cc∧gY W0 E H Kk M I b G0 w0 C iF mb gv w' a ids (j5 its id c')∧j4 W0 E H Kk M C.cb iF w' a ids cc∧(∀q∈iF,q∈GC∨V.heap.size≤q)∧Mod (cb::GC) V w'
section
variable {W0 : World} {E : Nat → Addr} {H : Nat → Nat} {Kk M I b : Nat} {G0 : List Nat} {w0 w : World} {C : iE} {GC : List Nat} {mb gv : Nat} {a : Pool} {ids : List Nat} {its : List It} {id cb : Nat} {c : gq}
theorem tK.mod {T:List Nat}{V w1 w2:World}{it:AY}(h:tK W0 E H Kk M I b G0 w0 C GC mb gv a ids its id cb c V it w1)(hm:Mod T w1 w2)(hT:∀q∈T,q∉fC b C GC mb its∧w0.heap.size≤q∧q<V.heap.size):
  ∃(c':gq) (cc:bE) (iF:List Nat),iT a.ents (fI a) c it c'∧Pq cc∧gY W0 E H Kk M I b G0 w0 C iF mb gv w2 a ids (j5 its id c')∧j4 W0 E H Kk M C.cb iF w2 a ids cc∧(∀q∈iF,q∈GC∨V.heap.size≤q)∧Mod (cb::(GC++T)) V w2:=by
 obtain⟨c',cc,iF,h1,h2,h3,h4,h5,h6⟩:=h
 have h7:∀q∈T,q∉iF:=fun q hq hg=>by
  rcases h5 q hg with k|k
  ·exact(hT q hq).1 (aK.2 (.inr (.inr k)))
  ·have:=(hT q hq).2.2;omega
 refine⟨c',cc,iF,h1,h2,h3.Eo hm (fun q hq=>⟨fun hg=> ?_,(hT q hq).2.1⟩),h4.mod hm (fun q hq=>⟨h7 q hq,Nat.le_trans h3.qH (hT q hq).2.1⟩),h5,(h6.more (fun q hq=>by simp at hq⊢;rcases hq with k|k;exact .inl k;exact .inr (.inl k))).then (hm.more (fun q hq=>by simp;exact .inr (.inr hq)))⟩;rcases aK.1 hg with k|k|k
 ·exact(hT q hq).1 (aK.2 (.inl k))
 ·rw[xg]at k;exact(hT q hq).1 (aK.2 (.inr (.inl k)))
 ·exact h7 q hq k
theorem tK.of {S:List Nat}{V V1 V2:World}{c':gq}{cc:bE}{iF:List Nat}{it:AY}(h3:gY W0 E H Kk M I b G0 w0 C iF mb gv V1 a ids its)(h4:j4 W0 E H Kk M C.cb iF V1 a ids cc)(h5:∀q∈iF,q∈GC∨V.heap.size≤q)(h6:Mod GC V V1)(hi:⟨id,cb,c⟩∈its)(h1:iT a.ents (fI a) c it c')(h2:Pq cc)(hc:fT V2 cb c')(hm:Mod S V1 V2)(hS:∀q∈S,q=cb∨(q∉fC b C iF mb its∧w0.heap.size≤q∧V.heap.size≤q)):tK W0 E H Kk M I b G0 w0 C GC mb gv a ids its id cb c V it V2:=by
 have hcb:cb∈bQ C.ib mb its:=by
  unfold bQ;simp only[List.mem_cons,List.mem_map];exact .inr (.inr ⟨_,hi,rfl⟩)
 refine⟨c',cc,iF,h1,h2,h3.ZU (h3.oM.setCur hi hc hm (fun q hq=>(hS q hq).elim .inl (fun k=> .inr (fun g=>k.1 (aK.2 (.inr (.inl g))))))) hm (fun q hq=>(hS q hq).elim (fun k=> .inl (k▸hcb)) (fun k=> .inr ⟨k.1,k.2.1⟩)) (fun q hq=>by rw[xg]at hq;exact .inl hq),h4.mod hm (fun q hq=> ?_),h5,h6.trans hm (fun q hq _=>List.mem_cons_of_mem _ hq) (fun q hq hl=> ?_)⟩
 ·rcases hS q hq with k|k
  ·rw[k];exact⟨h3.apart.2.2 _ hcb,h3.b0.2 _ hcb⟩
  ·exact⟨fun g=>k.1 (aK.2 (.inr (.inr g))),Nat.le_trans h3.qH k.2.1⟩
 ·rcases hS q hq with k|k
  ·rw[k];simp
  ·omega
theorem gY.ado (h:gY W0 E H Kk M I b G0 w0 C GC mb gv w a ids its):∀e∈a.ents,e.hash<18446744073709551616∧e.key<18446744073709551616:=fun e he=>by
 obtain⟨i,N,h1,h2⟩:=mI.1 he;have h3:=((h.core.facts.2.2.2.2.2.1 i N h1).hash e h2).1;exact⟨h3.h64,h3.k64⟩
end
theorem abJ {W0:World}{E:Nat→Addr}{H:Nat→Nat}{Kk M I b:Nat}{G0:List Nat}{w0 w:World}{C:iE}{GC:List Nat}{mb gv:Nat}{a:Pool}{ids:List Nat}{its:List It}{id cb:Nat}{c:gq}(hS:gY W0 E H Kk M I b G0 w0 C GC mb gv w a ids its)(hi:⟨id,cb,c⟩∈its)(hd:c.done=false)(hok:c.ok):Calls Tryz.prog 58 #[.pointer (some ⟨b,0,none⟩),.pointer (some ⟨cb,0,none⟩)] w fun y w'=>∃it,y= .returned (.tuple #[wI it,.nilIface])∧tK W0 E H Kk M I b G0 w0 C GC mb gv a ids its id cb c w it w':=by
 have hst:=hS;have hB:=(Below.refl w.heap.size w).alloc (Nat.le_refl _) (.cells #[.int .i64 0,.int .u64 0,.int .u64 0] 86);have hR:=aj.new w 86 #[.int .i64 0,.int .u64 0,.int .u64 0];obtain⟨W,hW⟩:∃W,W=w.alloc (.cells #[.int .i64 0,.int .u64 0,.int .u64 0] 86):=⟨_,rfl⟩;rw[←hW]at hB hR;have R5:=(hS.oM.cur _ hi).mod (Mod.of_below hB []) (by simp);have HS:=qd (hS.below hB);have HR:=qd hR;have HB:=qd hB;have HW:=qd hW;have HI:=qd hi;have HCu:=qd R5;have dU:=qd hS.ado;have HD:=qd hd;have xV:=qd hok;have HNf:=qd (show w.heap.size∉fC b C GC mb its from fun hg=>by have:=(hS.fH _ hg).1;omega);have HW0:=qd (show w0.heap.size≤w.heap.size from hS.mod.size);have Om:=qd (show w.heap.size∉GC from fun hg=>by have:=(hS.fH _ (aK.2 (.inr (.inr hg)))).1;omega);have R9:=qd (show w.heap.size≠cb from fun e=>by have:cb<w.heap.size:=(hS.oM.cur _ hi).lt;omega);clear hst hB hR hW hS R5 hi hd hok;go_in;go_upto_region 1 with fail;rw[←HW.out];go_wp2_with fail;refine(Xh HCu.out).mono ?_;rintro y W1 ⟨rfl,hb⟩;replace HS:=qd (HS.out.below hb);replace HR:=qB hb HR;replace HB:=qd (bX hb HB.out);clear hb HCu;have hbk:=HS.out.blk.blk;unfold iE.cells at hbk;have c3:=hbk.cell 3;simp only[gl]at c3;have hle:=Xg HS.out.core c.key c.hash xV.out.1;unfold bM at hle;have mP:=qd hle;clear hbk hle;go_wp2_with fail;refine mP.out.mono ?_;rintro y W2 ⟨o,hg,cc,iF,rfl,Xq,hcc,hct,hsu,hmo⟩;have hs2:=HS.out.aaI hct.at_ hsu hmo
 have HRn:=qd (show w.heap.size∉iF from fun hg=>(hsu _ hg).elim Om.out (fun k=>by have:=HR.out.lt;omega));have HQ:=qd (show Mod GC w W2 from(Mod.of_below HB.out GC).then hmo);replace HR:=qd (HR.out.mod hmo Om.out);replace HS:=qd hs2;have yJ:=qd hct;have zq:=qd Xq;have HCc:=qd hcc;have LM:=qd (show∀q∈iF,q∈GC∨w.heap.size≤q from fun q hq=>(hsu q hq).elim .inl (fun k=> .inr (by have:=HB.out.size;omega)));have HCb:=qd (show cb<W2.heap.size from(hs2.oM.cur _ HI.out).lt);clear hs2 hct Xq hcc hsu hmo mP c3;obtain⟨e0,he0⟩:∃e0:av,e0=o.getD ⟨0,0,0⟩:=⟨_,rfl⟩;rw[←he0];have LB:=qd he0;clear he0;unfold aR;go_upto_region 3 with fail;refine eB 76 #[.int .u64 (e0.key:Int),.int .u64 (e0.val:Int),.int .u64 (e0.hash:Int)] ?_;rintro W3 ⟨hX,hb⟩;replace HS:=qd (HS.out.below hb);replace yJ:=qd (yJ.out.below hb);replace HR:=qB hb HR;replace HQ:=qd (HQ.out.then (Mod.of_below hb GC));have HX:=qd hX;obtain⟨xb,hxb⟩:∃xb,xb=W2.heap.size:=⟨_,rfl⟩;rw[←hxb]at HX⊢
 have hxr:xb≠cb:=fun e=>by have:=HCb.out;omega
 have HXc:=qd hxr;clear hX hb hxb hxr
 have HRf:=qd (show w.heap.size∉fC b C iF mb its from fun hg=>by
  rcases aK.1 hg with k|k|k
  ·exact HNf.out (aK.2 (.inl k))
  ·exact HNf.out (aK.2 (.inr (.inl k)))
  ·exact HRn.out k)
 have hxc:xb∉[cb]:=fun hh=>HXc.out (List.mem_singleton.1 hh);have hrc:w.heap.size∉[cb]:=fun hh=>R9.out (List.mem_singleton.1 hh);have HXm:=qd hxc;have HRm:=qd hrc;clear hxc hrc
 cases o with
 |some m=>
  obtain rfl:e0=m:=LB.out;have hmm:=zq.out.2.2.2.2.1;have JU:=qd (dU.out e0 (pO.1 hmm).1);have ig:=qd zq.out.2.2.2.2.2.1;have Sb:=qd (fun V (hV:fT V cb c)=>QI hV HD.out e0 JU.out.2 JU.out.1 ig.out);unfold aR at Sb;have gT:=qd (iT.yield HD.out hg e0 zq.out.1 zq.out.2.2.1 zq.out.2.1 zq.out.2.2.2.1 zq.out.2.2.2.2);clear hmm;go_upto_region 4 with fail;have Sc:=HX.out.cell 0;have Sd:=HX.out.cell 1;have Sg:=HX.out.cell 2;simp only[gl]at Sc Sd Sg;refine rT (fun(w':World)=>w'.cell? ⟨xb,0,none⟩=some (.int .u64 (e0.key:Int))∧w'.cell? ⟨xb,1,none⟩=some (.int .u64 (e0.val:Int))∧w'.cell? ⟨xb,2,none⟩=some (.int .u64 (e0.hash:Int))) [8] ?_;have hHeld:=(⟨Sc,Sd,Sg⟩:_∧_∧_);refine vW 0 rfl ?_;refine vT 1 rfl ?_;refine vW 2 rfl ?_;refine vT 3 rfl ?_;refine vW 4 rfl ?_;refine vW 5 rfl ?_;refine vT 6 rfl ?_;refine nT 7 rfl fun K hK=> ?_;go_simp;refine(Sb.out _ ((HS.out.oM.cur _ HI.out).mod (Mod.of_below (Below.refl W3.heap.size W3).drew []) (by simp))).mono ?_;rintro y W4 ⟨rfl,hc4,kS⟩;replace kS:Mod [cb] W3 W4:=(Mod.of_below (Below.refl W3.heap.size W3).drew [cb]).then kS;replace HR:=qd (HR.out.mod kS HRm.out);have kF:=qd hc4;have Fp:=qd kS;replace HX:=qd (HX.out.mod kS HXm.out);clear hc4 kS Sb Sc Sd Sg;have Sc:=HX.out.cell 0;have Sd:=HX.out.cell 1;have Sg:=HX.out.cell 2;simp only[gl]at Sc Sd Sg;go_wp2_with fail;have hHeld:=(⟨Sc,Sd,Sg⟩:_∧_∧_);refine kO hK ?_;clear hK K;refine nT 8 rfl fun K hK=> ?_;have r:=HR.out.c3;obtain⟨f0,f1,f2⟩:=HR.out.f3
  have hnw:=((HR.out.ak 0 (.int .i64 1)).ak 1 (.int .u64 (e0.key:Int))).ak 2 (.int .u64 (e0.val:Int));have jP:=(((Mod.refl [w.heap.size] W4).ak (b:=w.heap.size) (.inl (by simp)) 0 (.int .i64 1)).ak (b:=w.heap.size) (.inl (by simp)) 1 (.int .u64 (e0.key:Int))).ak (b:=w.heap.size) (.inl (by simp)) 2 (.int .u64 (e0.val:Int));simp only[pt]at hnw;have hmt:Mod [cb,w.heap.size] W3 ((((W4).setCell ⟨w.heap.size,0,none⟩ (.int .i64 1)).setCell ⟨w.heap.size,1,none⟩ (.int .u64 (e0.key:Int))).setCell ⟨w.heap.size,2,none⟩ (.int .u64 (e0.val:Int))):=Fp.out.trans jP (fun q hq _=>by simp at hq⊢;exact .inl hq) (fun q hq _=>by simp at hq⊢;exact .inr hq)
  have HF:=qd (tK.of (V:=w) HS.out yJ.out LM.out HQ.out HI.out gT.out HCc.out (kF.out.mod jP (fun hh=>R9.out (List.mem_singleton.1 hh).symm)) hmt (fun q hq=>by
   rcases List.mem_cons.1 hq with k|k
   ·exact .inl k
   ·rw[List.mem_singleton.1 k];exact .inr ⟨HRf.out,HW0.out,Nat.le_refl _⟩))
  have jS:=qd hnw;clear hnw jP hmt;go_simp;refine kO hK ?_;clear hK K;refine vL 9 rfl ?_;refine aY (by kernel_rfl) ?_ _;go_wp2;refine bodyPost_ret (v:= .tuple #[.agg #[.int .i64 1,.int .u64 (e0.key:Int),.int .u64 (e0.val:Int)],.nilIface]) (by simp[results,Tryz.results58,go_sem,r.1,r.2.1,r.2.2]) rfl ⟨⟨1,e0.key,e0.val⟩,rfl,HF.out⟩
 |none=>
  have Sb:=qd (QJ (HS.out.oM.cur _ HI.out) HD.out hg zq.out.2.1 zq.out.1);have gT:=qd (iT.skip HD.out hg zq.out.1 zq.out.2.2.1 zq.out.2.1 zq.out.2.2.2.1 zq.out.2.2.2.2);go_wp2_with fail;refine Sb.out.mono ?_;rintro y W4 ⟨rfl,hc4,kS⟩;replace HR:=qd (HR.out.mod kS HRm.out);have kF:=qd hc4;have Fp:=qd kS;have HDn:=qd (FW hc4);clear hc4 kS Sb;by_cases hmx:hg<18446744073709551615
  ·have hdn:(behind hg 18446744073709551615).done=false:=by unfold behind;rw[if_neg (by omega),if_pos hmx]
   rw[hdn]at HDn;rw[if_pos hmx]at gT;clear hdn;go_wp2_with fail;refine HDn.out.mono ?_;rintro y W5 ⟨rfl,rfl⟩;clear HDn;have r:=HR.out.c3;obtain⟨f0,f1,f2⟩:=HR.out.f3;have hnw:=((HR.out.ak 0 (.int .i64 2)).ak 1 (.int .u64 0)).ak 2 (.int .u64 0);have jP:=(((Mod.refl [w.heap.size] W4).ak (b:=w.heap.size) (.inl (by simp)) 0 (.int .i64 2)).ak (b:=w.heap.size) (.inl (by simp)) 1 (.int .u64 0)).ak (b:=w.heap.size) (.inl (by simp)) 2 (.int .u64 0);simp only[pt]at hnw;have hmt:Mod [cb,w.heap.size] W3 ((((W4).setCell ⟨w.heap.size,0,none⟩ (.int .i64 2)).setCell ⟨w.heap.size,1,none⟩ (.int .u64 0)).setCell ⟨w.heap.size,2,none⟩ (.int .u64 0)):=Fp.out.trans jP (fun q hq _=>by simp at hq⊢;exact .inl hq) (fun q hq _=>by simp at hq⊢;exact .inr hq)
   have HF:=qd (tK.of (V:=w) HS.out yJ.out LM.out HQ.out HI.out gT.out HCc.out (kF.out.mod jP (fun hh=>R9.out (List.mem_singleton.1 hh).symm)) hmt (fun q hq=>by
    rcases List.mem_cons.1 hq with k|k
    ·exact .inl k
    ·rw[List.mem_singleton.1 k];exact .inr ⟨HRf.out,HW0.out,Nat.le_refl _⟩))
   have jS:=qd hnw;clear hnw jP hmt;go_wp2;refine bodyPost_ret (v:= .tuple #[.agg #[.int .i64 2,.int .u64 0,.int .u64 0],.nilIface]) (by simp[results,Tryz.results58,go_sem,r.1,r.2.1,r.2.2]) rfl ⟨⟨2,0,0⟩,rfl,HF.out⟩
  ·have hdn:(behind hg 18446744073709551615).done=true:=by unfold behind;rw[if_neg (by omega),if_neg hmx]
   rw[hdn]at HDn;rw[if_neg hmx]at gT;clear hdn;go_wp2_with fail;refine HDn.out.mono ?_;rintro y W5 ⟨rfl,rfl⟩;clear HDn;have r:=HR.out.c3;obtain⟨f0,f1,f2⟩:=HR.out.f3;have hnw:=((HR.out.ak 0 (.int .i64 3)).ak 1 (.int .u64 0)).ak 2 (.int .u64 0);have jP:=(((Mod.refl [w.heap.size] W4).ak (b:=w.heap.size) (.inl (by simp)) 0 (.int .i64 3)).ak (b:=w.heap.size) (.inl (by simp)) 1 (.int .u64 0)).ak (b:=w.heap.size) (.inl (by simp)) 2 (.int .u64 0);simp only[pt]at hnw;have hmt:Mod [cb,w.heap.size] W3 ((((W4).setCell ⟨w.heap.size,0,none⟩ (.int .i64 3)).setCell ⟨w.heap.size,1,none⟩ (.int .u64 0)).setCell ⟨w.heap.size,2,none⟩ (.int .u64 0)):=Fp.out.trans jP (fun q hq _=>by simp at hq⊢;exact .inl hq) (fun q hq _=>by simp at hq⊢;exact .inr hq)
   have HF:=qd (tK.of (V:=w) HS.out yJ.out LM.out HQ.out HI.out gT.out HCc.out (kF.out.mod jP (fun hh=>R9.out (List.mem_singleton.1 hh).symm)) hmt (fun q hq=>by
    rcases List.mem_cons.1 hq with k|k
    ·exact .inl k
    ·rw[List.mem_singleton.1 k];exact .inr ⟨HRf.out,HW0.out,Nat.le_refl _⟩))
   have jS:=qd hnw;clear hnw jP hmt;go_wp2;refine bodyPost_ret (v:= .tuple #[.agg #[.int .i64 3,.int .u64 0,.int .u64 0],.nilIface]) (by simp[results,Tryz.results58,go_sem,r.1,r.2.1,r.2.2]) rfl ⟨⟨3,0,0⟩,rfl,HF.out⟩
end
theorem Z0 (d:Nat)(fn:Fn)(a b:Array Value)(w:World):(Op.equalIn (d+1) 126 (.func fn a b) .nilFunc).run Tryz.prog w= .ok false w:=by simp[Op.equalIn,run_underlying Tryz.underlying126]
theorem adp (fn:Fn)(a b:Array Value)(w:World):(Op.equal 126 (.func fn a b) .nilFunc).run Tryz.prog w= .ok false w:=Z0 9999 fn a b w
theorem abK (d:Nat)(x:TypeId)(v:Value)(w:World):(Op.equalIn (d+1) 44 .nilIface (.iface x v)).run Tryz.prog w= .ok false w:=by simp[Op.equalIn,run_underlying Tryz.underlying44]
theorem ad1 (x:TypeId)(v:Value)(w:World):(Op.equal 44 .nilIface (.iface x v)).run Tryz.prog w= .ok false w:=abK 9999 x v w
theorem adq (a:Addr)(w:World):Calls Tryz.prog 55 #[.nilIface,.iface 325 (.pointer (some a))] w fun e w'=>e= .returned (.bool false)∧w=w':=by
 have hq:∀W:World,(binOp .eql 44 .nilIface (.iface 325 (.pointer (some a)))).run Tryz.prog W= .ok (.bool false) W:=fun W=>by
  simp only[binOp];simp[ad1]
 go_in;go_wp2;go_ret;exact⟨rfl,rfl⟩
theorem abL {S:List Nat}{K:AY→World→Prop}(G:FuncId)(cap:Array Value){V:World}{fb ob eb:Nat}(hG:∀W:World,(callFunc G cap).run Tryz.prog W= .ok (.enter G cap) W)(hF:aj V fb 126 #[.func (.func G) #[] cap])(hO:aj V ob 86 #[.int .i64 0,.int .u64 0,.int .u64 0])(hE:aj V eb 44 #[.nilIface])(hN:ob∉S∧eb∉S)(hoe:ob≠eb)
  (hc:Calls Tryz.prog G cap V fun y w1=>∃it,y= .returned (.tuple #[wI it,.nilIface])∧Mod S V w1∧K it w1):
  Calls Tryz.prog 85 #[.pointer (some ⟨fb,0,none⟩),.pointer (some ⟨ob,0,none⟩),.pointer (some ⟨eb,0,none⟩)] V fun y w'=>y= .returned undef∧∃it w1,K it w1∧Mod S V w1∧Mod [ob] w1 w'∧aj w' ob 86 #[.int .i64 (it.st:Int),.int .u64 (it.key:Int),.int .u64 (it.val:Int)]∧aj w' eb 44 #[.nilIface]:=by
 have HO:=qd hO;have HE:=qd hE;have HN:=qd hN;have HC:=qd hc;have x0:=hF.cell 0;simp only[List.getElem?_toArray,List.getElem?_cons_zero]at x0;have hgg:=hG;have HOE:=qd hoe;clear hF hO hE hN hc hoe;go_in;go_wp2_with fail;refine HC.out.mono ?_;rintro y w1 ⟨it,rfl,hm,hk⟩;have yX:=HO.out.mod hm HN.out.1;have hE1:=HE.out.mod hm HN.out.2;have o0:=yX.cell 0;have o1:=yX.cell 1;have o2:=yX.cell 2;have e0:=hE1.cell 0;simp only[gl]at o0 o1 o2 e0;obtain⟨of0,of1,of2⟩:=yX.f3;have ef0:=hE1.frozen 0;have hid:=hE1.Br (i:=0) (u:= .nilIface) rfl;have hn:=((yX.ak 0 (.int .i64 (it.st:Int))).ak 1 (.int .u64 (it.key:Int))).ak 2 (.int .u64 (it.val:Int));have hm2:=(((Mod.refl [ob] w1).sl 0 (.int .i64 (it.st:Int))).sl 1 (.int .u64 (it.key:Int))).sl 2 (.int .u64 (it.val:Int));simp only[pt]at hn;have hE2:=hE1.mod hm2 (fun hh=>HOE.out (List.mem_singleton.1 hh).symm);have adr:=hE2.Br (i:=0) (u:= .nilIface) rfl;have HF:=qd (show∃it w2,K it w2∧Mod S V w2∧Mod [ob] w2 _∧aj _ ob 86 #[.int .i64 (it.st:Int),.int .u64 (it.key:Int),.int .u64 (it.val:Int)]∧aj _ eb 44 #[.nilIface]from⟨it,w1,hk,hm,hm2,hn,hE2⟩);have hne1:=HOE.out;have hne2:eb≠ob:=fun e=>hne1 e.symm;clear e0 ef0;have e0:=hE1.cell 0;simp only[gl]at e0;have ef0:=hE1.frozen 0;have HI:=qd adr;clear hm hk yX hE1 hid hn hm2 hE2 adr;unfold wI;go_wp2;go_end0;rw[HI.out];exact⟨rfl,HF.out⟩
theorem Z4 {S:List Nat}{K:World→AY→World→Prop}(G:FuncId)(cap:Array Value)(w:World)(hG:∀W:World,(callFunc G cap).run Tryz.prog W= .ok (.enter G cap) W)(hS:∀q∈S,q<w.heap.size)
  (hc:∀V,Below w.heap.size w V→w.heap.size+5≤V.heap.size→Calls Tryz.prog G cap V fun y w1=>∃it,y= .returned (.tuple #[wI it,.nilIface])∧Mod S V w1∧K V it w1):
  Calls Tryz.prog 56 #[.func (.func G) #[] cap] w fun y w'=>∃V it w1 T,y= .returned (.tuple #[wI it,.nilIface])∧Below w.heap.size w V∧Mod S V w1∧K V it w1∧Mod T w1 w'∧∀q∈T,w.heap.size≤q∧q<V.heap.size:=by
 obtain⟨W,hW,hB,hBf,hBr,hBo,hBn,Px⟩:=qX5 w 126 #[.func (.func G) #[] cap] 86 #[.int .i64 0,.int .u64 0,.int .u64 0] 86 #[.int .i64 0,.int .u64 0,.int .u64 0] 86 #[.int .i64 0,.int .u64 0,.int .u64 0] 44 #[.nilIface];have hsz:=hB.size;have HW:=qd hW;have HB:=qd hB;have hWl:=Px.lt;have HBf:=qd hBf;have HBr:=qd hBr;have qL:=qd hBo;have Au:=qd Px;have HS:=qd hS;have HC:=qd hc;clear hW hB hBf hBr hBo hBn Px hS hc;have qm:∀(fn:Fn) (first cap:Array Value) (w:World),(Instr.makeFunc fn first cap).run Tryz.prog w= .ok (.func fn first cap) w:=fun _ _ _ _=>rfl
 have hq:∀W:World,(binOp .eql 126 (.func (.func G) #[] cap) .nilFunc).run Tryz.prog W= .ok (.bool false) W:=fun W=>by
  simp only[binOp];simp[adp]
 have yI:=(Below.refl W.heap.size W).alloc (Nat.le_refl _) (.cells #[.nilIface] 44);have rZ:Below w.heap.size w (W.alloc (.cells #[.nilIface] 44)):=bX yI HB.out
 have hlV:w.heap.size+5≤(W.alloc (.cells #[.nilIface] 44)).heap.size:=by simp;omega
 have HNS:=qd (show∀q,w.heap.size≤q→q∉S from fun q hq hs=>by have:=HS.out q hs;omega)
 have yJ:=qd (Jh (S:=(w.heap.size+1+1)::S) (K:=fun w'=>∃it w1,K (W.alloc (.cells #[.nilIface] 44)) it w1∧Mod S (W.alloc (.cells #[.nilIface] 44)) w1∧Mod [(w.heap.size+1+1)] w1 w'∧aj w' (w.heap.size+1+1) 86 #[.int .i64 (it.st:Int),.int .u64 (it.key:Int),.int .u64 (it.val:Int)]∧aj w' (w.heap.size+1+1+1+1) 44 #[.nilIface]) 85 #[.pointer (some ⟨w.heap.size,0,none⟩),.pointer (some ⟨(w.heap.size+1+1),0,none⟩),.pointer (some ⟨(w.heap.size+1+1+1+1),0,none⟩)] W (fun V=>enters_of Tryz.func85 (by kernel_rfl) rfl _ V)
  (fun hg=>by
   rcases List.mem_cons.1 hg with k|k
   ·omega
   ·exact HNS.out _ (by omega) k)
  ((abL G cap hG (HBf.out.mod (Mod.of_below yI []) (by simp)) (qL.out.mod (Mod.of_below yI []) (by simp)) (Au.out.mod (Mod.of_below yI []) (by simp)) ⟨HNS.out _ (by omega),HNS.out _ (by omega)⟩ (by omega) (HC.out _ rZ hlV)).mono (fun y w1 hh=>⟨hh.1,(by
   obtain⟨it,w2,k1,k2,k3,_,_⟩:=hh.2
   exact k2.trans k3 (fun q hq _=>List.mem_cons_of_mem _ hq) (fun q hq _=>by rw[List.mem_singleton.1 hq];simp)),hh.2⟩)))
 have HV:=qd (And.intro rZ hlV);have Xl:=qd yI;have x0:=HBf.out.cell 0;simp only[List.getElem?_toArray,List.getElem?_cons_zero]at x0;clear yI rZ hlV;go_in;go_upto_region 3 with fail;rw[←HW.out];go_wp2_with fail;refine yJ.out.mono ?_;rintro y w1 ⟨rfl,hm1,it,w2,hk,hm2,iZ,ho,he⟩
 have hr1:=(HBr.out.mod (Mod.of_below Xl.out []) (by simp)).mod hm1 (fun hg=>by
  rcases List.mem_cons.1 hg with k|k
  ·omega
  ·exact HNS.out _ (by omega) k)
 have r0:=hr1.cell 0;have r1:=hr1.cell 1;have r2:=hr1.cell 2;have o0:=ho.cell 0;have o1:=ho.cell 1;have o2:=ho.cell 2;have e0:=he.cell 0;simp only[gl]at r0 r1 r2 o0 o1 o2 e0;obtain⟨f0,f1,f2⟩:=hr1.f3;have jP:=(((Mod.refl [(w.heap.size+1)] w1).sl 0 (.int .i64 (it.st:Int))).sl 1 (.int .u64 (it.key:Int))).sl 2 (.int .u64 (it.val:Int));have hmt:=iZ.trans jP (U:=[(w.heap.size+1),(w.heap.size+1+1)]) (fun q hq _=>by simp at hq⊢;exact .inr hq) (fun q hq _=>by simp at hq⊢;exact .inl hq)
 have HF:=qd (show∃V LQ w1 T,(Ending.returned (.tuple #[.agg #[.int .i64 (it.st:Int),.int .u64 (it.key:Int),.int .u64 (it.val:Int)],.nilIface]))= .returned (.tuple #[wI LQ,.nilIface])∧Below w.heap.size w V∧Mod S V w1∧K V LQ w1∧Mod T w1 _∧∀q∈T,w.heap.size≤q∧q<V.heap.size from⟨_,it,w2,_,rfl,HV.out.1,hm2,hk,hmt,fun q hq=>by
  have:=HV.out.2;simp at hq
  rcases hq with k|k<;>omega⟩)
 clear hm1 hk hm2 iZ ho he hr1 jP hmt yJ;go_wp2;refine bodyPost_ret (v:= .tuple #[.agg #[.int .i64 (it.st:Int),.int .u64 (it.key:Int),.int .u64 (it.val:Int)],.nilIface]) (by simp[results,Tryz.results56,go_sem,r0,r1,r2]) rfl HF.out
section
variable {its : List It} {I Kk M b cb gv id : Nat} {c : gq} {W0 : World} {E : Nat → Addr} {H : Nat → Nat} {a : Pool} {ids : List Nat}
theorem UG (hn:(its.map It.id).Nodup)(hi:⟨id,cb,c⟩∈its):j5 its id c=its:=by
 unfold j5
 conv=>rhs;rw[←List.map_id its]
 apply List.map_congr_left;intro i hi';by_cases h:i.id=id
 ·rw[if_pos h,yG hn hi' hi h];rfl
 ·rw[if_neg h];rfl
theorem Z5 {G0:List Nat}{w0 V:World}{C:iE}{GC:List Nat}{mb:Nat}{pm pc:Nat}(hS:gY W0 E H Kk M I b G0 w0 C GC mb gv V a ids its)(hm:aj V pm 42 #[.pointer (some ⟨b,0,none⟩)])(hc:aj V pc 120 #[.pointer (some ⟨cb,0,none⟩)])(hi:⟨id,cb,c⟩∈its)(hd:c.done=false)(hok:c.ok):Calls Tryz.prog 57 #[.pointer (some ⟨pm,0,none⟩),.pointer (some ⟨pc,0,none⟩)] V fun y w'=>∃it,y= .returned (.tuple #[wI it,.nilIface])∧Mod (cb::GC) V w'∧tK W0 E H Kk M I b G0 w0 C GC mb gv a ids its id cb c V it w':=by
 have hsl:=hS.fH;have hW0:=hS.mod.size;have hB:=(Below.refl V.heap.size V).alloc (Nat.le_refl _) (.cells #[.int .i64 0,.int .u64 0,.int .u64 0] 86);have hR:=aj.new V 86 #[.int .i64 0,.int .u64 0,.int .u64 0];obtain⟨W,hW⟩:∃W,W=V.alloc (.cells #[.int .i64 0,.int .u64 0,.int .u64 0] 86):=⟨_,rfl⟩;rw[←hW]at hB hR;have hst:=abJ (hS.below hB) hi hd hok;have jY:=qd hst;have HR:=qd hR;have HW:=qd hW;have HB:=qd hB;have HNf:=qd (show V.heap.size∉fC b C GC mb its from fun hg=>by have:=(hsl _ hg).1;omega)
 have R9:=qd (show V.heap.size∉cb::GC from fun hg=>by
  rcases List.mem_cons.1 hg with k|k
  ·have:cb<V.heap.size:=(hS.oM.cur _ hi).lt;omega
  ·have:=(hsl _ (aK.2 (.inr (.inr k)))).1;omega)
 have HL:=qd (show V.heap.size<W.heap.size from hR.lt)
 have HCb:=qd (show cb∈bQ C.ib mb its from by
  unfold bQ;simp only[List.mem_cons,List.mem_map]
  exact .inr (.inr ⟨_,hi,rfl⟩))
 have HW0:=qd hW0;have x0:=(hm.mod (Mod.of_below hB []) (by simp)).cell 0;have y0:=(hc.mod (Mod.of_below hB []) (by simp)).cell 0;simp only[List.getElem?_toArray,List.getElem?_cons_zero]at x0 y0;clear hst hR hW hB hS hi hd hok hm hc hsl hW0;go_in;go_upto_region 1 with fail;rw[←HW.out];go_wp2_with fail;refine jY.out.mono ?_;rintro y w1 ⟨it,rfl,hp⟩
 have hmm:Mod (cb::GC) W w1:=by obtain⟨_,_,_,_,_,_,_,_,q⟩:=hp;exact q
 have hr1:=HR.out.mod hmm R9.out;obtain⟨r0,r1,r2⟩:=hr1.c3;obtain⟨f0,f1,f2⟩:=hr1.f3;have jP:=(((Mod.refl [V.heap.size] w1).ak (b:=V.heap.size) (.inl (by simp)) 0 (.int .i64 (it.st:Int))).ak (b:=V.heap.size) (.inl (by simp)) 1 (.int .u64 (it.key:Int))).ak (b:=V.heap.size) (.inl (by simp)) 2 (.int .u64 (it.val:Int));obtain⟨c',cc,iF,q1,q2,q3,q4,q5,q6⟩:=hp.mod jP (fun q hq=>by rw[List.mem_singleton.1 hq];exact⟨HNf.out,HW0.out,HL.out⟩)
 have hq6:=(Mod.of_below HB.out (cb::GC)).trans q6 (fun q hq _=>hq) (fun q hq hl=>by
  rcases List.mem_cons.1 hq with k|k
  ·rw[k];simp
  ·rcases List.mem_append.1 k with k|k
   ·exact List.mem_cons_of_mem _ k
   ·rw[List.mem_singleton.1 k]at hl;omega)
 have HF:=qd (show∃LQ,(Ending.returned (.tuple #[.agg #[.int .i64 (it.st:Int),.int .u64 (it.key:Int),.int .u64 (it.val:Int)],.nilIface]))= .returned (.tuple #[wI LQ,.nilIface])∧Mod (cb::GC) V _∧tK W0 E H Kk M I b G0 w0 C GC mb gv a ids its id cb c V LQ _ from⟨it,rfl,hq6,c',cc,iF,q1,q2,q3,q4,fun q hq=>(q5 q hq).elim .inl (fun k=> .inr (by have:=HL.out;omega)),hq6⟩);clear hmm hr1 jP q1 q2 q3 q4 q5 q6 hq6 hp jY;unfold wI;go_wp2;refine bodyPost_ret (v:= .tuple #[.agg #[.int .i64 (it.st:Int),.int .u64 (it.key:Int),.int .u64 (it.val:Int)],.nilIface]) (by simp[results,Tryz.results57,go_sem,r0,r1,r2]) rfl HF.out
theorem J3 {G:List Nat}{w:World}{dK:bE}(h:jV W0 E H Kk M I b G w a ids its gv dK)(hE6:gN E W0 6)(hi:⟨id,cb,c⟩∈its)(hok:c.ok):Calls Tryz.prog 33 #[.pointer (some ⟨b,0,none⟩),.int .i64 (id:Int)] w fun y w'=>∃it c' dL,y= .returned (.tuple #[wI it,.nilIface])∧iT a.ents (fI a) c it c'∧Pq dL∧qC W0 E H Kk M I b G w w' a ids (j5 its id c') gv dL:=by
 obtain⟨C,GC,mb,hS,rfl,wD⟩:=h;obtain⟨W,hW,hB,hBm,hBr⟩:=oJ w 42 #[.pointer (some ⟨b,0,none⟩)] 86 #[.int .i64 0,.int .u64 0,.int .u64 0];have hlt:=fun q hq=>(hS.fH q hq).1;have nM:=qd (show∀q,w.heap.size≤q→q∉fC b C GC mb its from fun q hq hg=>by have:=hlt q hg;omega);have HS:=qd (hS.below hB);have HX:=qd hBm;have HR:=qd hBr;have HB:=qd hB;have HW:=qd hW;have HI:=qd hi;have xV:=qd hok;have ug:=qd hS.oM.nd;have hbk:=(hS.below hB).blk.blk;unfold iE.cells at hbk;have c16:=hbk.cell 16;simp only[gl]at c16;have x0:=hBm.cell 0;simp only[List.getElem?_toArray,List.getElem?_cons_zero]at x0;have kX:=qd (Pt (hS.below hB).oM hi);have h6:W.cell? ⟨gE 6,0,none⟩=some (.iface 325 (.pointer (some (E 6)))):=(World.cell?_of_block ((hS.below hB).core.facts.2.2.2.2.2.2.2.2.2.2.2.below.block _ (World.block_lt_of_cell? W0 _ hE6))).trans hE6;have H6:=qd h6
 have HSl:=qd (show∀q∈cb::GC,q<w.heap.size from fun q hq=>by
  rcases List.mem_cons.1 hq with k|k
  ·rw[k];exact(hS.oM.cur _ hi).lt
  ·exact hlt q (aK.2 (.inr (.inr k))))
 have HCb:=qd (show cb∈bQ C.ib mb its from by
  unfold bQ;simp only[List.mem_cons,List.mem_map]
  exact .inr (.inr ⟨_,hi,rfl⟩))
 clear hbk hW hB hBm hBr hS hi hok hlt wD h6;go_in;go_upto_region 1 with fail;rw[←HW.out];go_wp2_with fail;refine kX.out.mono ?_;rintro y w1 ⟨rfl,rfl⟩;clear kX x0 c16;go_upto_region 2 with fail;refine eB 120 #[.pointer (some ⟨cb,0,none⟩)] ?_;rintro W1 ⟨hP,hb⟩;have h6:=aA hb H6.out;have HP:=qd hP;replace HS:=qd (HS.out.below hb);replace HX:=qB hb HX;replace HR:=qB hb HR;have HB1:=qd (bX hb HB.out);obtain⟨pc,hpc⟩:∃pc,pc=W.heap.size:=⟨_,rfl⟩;rw[←hpc]at HP⊢;have Ay:=qd hpc;replace H6:=qd h6;clear hP hb hpc h6;have p0:=HP.out.cell 0;simp only[List.getElem?_toArray,List.getElem?_cons_zero]at p0;have hdn:=FW (HS.out.oM.cur _ HI.out);have HNr:=qd (show(w.heap.size+1)∉[b]from fun hg=>nM.out _ (by omega) (aK.2 (.inl (List.mem_singleton.1 hg))));have Pg:=qd HNr.out;have x0:=HX.out.cell 0;simp only[List.getElem?_toArray,List.getElem?_cons_zero]at x0
 cases hd:c.done with
 |true=>
  rw[hd]at hdn;have HDn:=qd hdn;have LK:=qd (show Calls Tryz.prog 46 #[.pointer (some ⟨b,0,none⟩),.agg #[.int .i64 0,.int .i64 0,.int .i64 0]] W1 _ from yF HS.out.blk ⟨0,0,0⟩);have Ny:=qd (fun V=>adq (E 6) V);have WR:=qd hd;clear hdn hd;go_wp2_with fail;refine HDn.out.mono ?_;rintro y w2 ⟨rfl,rfl⟩;clear HDn;go_wp2_with fail;refine LK.out.mono ?_;rintro y w2 ⟨rfl,hB2,hm2⟩;have hs2:=HS.out.Pv hB2 hm2 ⟨rfl,rfl,rfl,rfl,rfl⟩
  have hgb:gE 6∉[b]:=fun hh=>by
   have h1:=World.block_lt_of_cell? W0 _ hE6;have h2:=HS.out.b0.1;rw[List.mem_singleton.1 hh]at h1;exact absurd h1 (by show¬b<W0.heap.size;omega)
  have h6:w2.cell? ⟨gE 6,0,none⟩=some (.iface 325 (.pointer (some (E 6)))):=(World.cell?_of_block (hm2.block _ (World.block_lt_of_cell? W1 _ H6.out) hgb)).trans H6.out;unfold gE at h6;have hr2:=HR.out.mod hm2 HNr.out;obtain⟨r0,r1,r2⟩:=hr2.c3;obtain⟨f0,f1,f2⟩:=hr2.f3;have HS2:=qd hs2;clear hs2 hB2 hm2 hgb hr2 LK;go_wp2_with fail;refine(Ny.out _).mono ?_;rintro y w3 ⟨rfl,rfl⟩;clear Ny;have jP:=(((Mod.refl [w.heap.size+1] w2).ak (b:=w.heap.size+1) (.inl (by simp)) 0 (.int .i64 3)).ak (b:=w.heap.size+1) (.inl (by simp)) 1 (.int .u64 0)).ak (b:=w.heap.size+1) (.inl (by simp)) 2 (.int .u64 0);have hs3:=HS2.out.Eo jP (fun q hq=>by rw[List.mem_singleton.1 hq];exact⟨nM.out _ (by omega),by omega⟩);have hto:=hs3.to;have HF:=qd (show∃it c' dL,(Ending.returned (.tuple #[.agg #[.int .i64 3,.int .u64 0,.int .u64 0],.nilIface]))= .returned (.tuple #[wI it,.nilIface])∧iT a.ents (fI a) c it c'∧Pq dL∧qC W0 E H Kk M I b (fC b C GC mb its) w _ a ids (j5 its id c') gv dL from⟨⟨3,0,0⟩,c,⟨0,0,0⟩,rfl,.done WR.out,⟨by decide,by decide,rfl⟩,by rw[UG ug.out HI.out];exact hto⟩);clear jP hs3 hto h6;go_wp2;refine bodyPost_ret (v:= .tuple #[.agg #[.int .i64 3,.int .u64 0,.int .u64 0],.nilIface]) (by simp[results,Tryz.results33,go_sem,r0,r1,r2]) rfl HF.out
 |false=>
  rw[hd]at hdn;have HDn:=qd hdn;have qm:∀(fn:Fn) (first cap:Array Value) (w:World),(Instr.makeFunc fn first cap).run Tryz.prog w= .ok (.func fn first cap) w:=fun _ _ _ _=>rfl
  have Vo:=qd (Z4 (S:=cb::GC) (K:=fun V it w1=>tK W0 E H Kk M I b (fC b C GC mb its) w C GC mb gv a ids its id cb c V it w1) 57 #[.pointer (some ⟨w.heap.size,0,none⟩),.pointer (some ⟨pc,0,none⟩)] W1 (fun V=>enters_of Tryz.func57 (by kernel_rfl) rfl _ V) (fun q hq=>Nat.lt_of_lt_of_le (HSl.out q hq) HB1.out.size)
   (fun V rZ _=>Z5 (HS.out.below rZ) (HX.out.mod (Mod.of_below rZ []) (by simp)) (HP.out.mod (Mod.of_below rZ []) (by simp)) HI.out hd xV.out))
  have Xr:=qd (show w.heap.size<W1.heap.size∧w.heap.size+1<W1.heap.size from⟨HX.out.lt,HR.out.lt⟩);clear hdn hd p0;have p0:=HP.out.cell 0;simp only[List.getElem?_toArray,List.getElem?_cons_zero]at p0;go_wp2_with fail;refine HDn.out.mono ?_;rintro y w2 ⟨rfl,rfl⟩;clear HDn;go_wp2_with fail;refine Vo.out.mono ?_;rintro y w3 ⟨V,it,w2,T,rfl,rZ,hmS,hst,hmT,hT⟩;have hxs:∀q,w.heap.size≤q→q<W1.heap.size→q∉cb::GC∧q∉T:=fun q h1 h2=>⟨fun hh=>by have:=HSl.out q hh;omega,fun hh=>by have:=(hT q hh).1;omega⟩;have LU:=((HX.out.mod (Mod.of_below rZ []) (by simp)).mod hmS (hxs _ (Nat.le_refl _) Xr.out.1).1).mod hmT (hxs _ (Nat.le_refl _) Xr.out.1).2;have um:=((HR.out.mod (Mod.of_below rZ []) (by simp)).mod hmS (hxs _ (by omega) Xr.out.2).1).mod hmT (hxs _ (by omega) Xr.out.2).2
  obtain⟨c',cc,iF,q1,q2,q3,q4,q5,q6⟩:=hst.mod hmT (fun q hq=>by
   have:=hT q hq;have:=HB1.out.size
   exact⟨nM.out q (by omega),by omega,by omega⟩)
  replace HX:=qd LU;replace HR:=qd um;replace HS:=qd q3;have yJ:=qd q4;have gT:=qd (And.intro q1 q2);have HR4:=qd (show(w.heap.size+1)∉iF from fun hg=>(q5 _ hg).elim (fun k=>nM.out _ (by omega) (aK.2 (.inr (.inr k)))) (fun k=>by have:=Xr.out.2;have:=rZ.size;omega));have Ir:=qd (show∀q,w3.heap.size≤q→q≠b from fun q hq e=>by have:=q3.blk.lt;omega);clear hxs LU um hst hmT hT hmS rZ q1 q2 q3 q4 q5 q6 Vo p0 x0;unfold wI;go_upto_region 8 with fail;refine eB 86 #[.int .i64 (it.st:Int),.int .u64 (it.key:Int),.int .u64 (it.val:Int)] ?_;rintro W4 ⟨hO,hb⟩;replace HS:=qd (HS.out.below hb);replace yJ:=qd (yJ.out.below hb);replace HX:=qB hb HX;replace HR:=qB hb HR;have HO:=qd hO;have Lh:=qd (show w3.heap.size∉[b]from fun hh=>Ir.out _ (Nat.le_refl _) (List.mem_singleton.1 hh));obtain⟨ob,lQ⟩:∃ob,ob=w3.heap.size:=⟨_,rfl⟩;rw[←lQ]at HO Lh⊢;clear hO hb lQ;have hcc:=yJ.out;have hbk:=HS.out.blk.blk;unfold iE.cells at hbk;have c3:=hbk.cell 3;simp only[gl]at c3;have x0:=HX.out.cell 0;simp only[List.getElem?_toArray,List.getElem?_cons_zero]at x0;have ig:=qd (EP (hcc.below (Below.refl W4.heap.size W4).drew));unfold oF at ig;clear hbk hcc;refine rT (fun(w':World)=>w'.cell? ⟨w.heap.size,0,none⟩=some (.pointer (some ⟨b,0,none⟩))∧w'.cell? ⟨b,3,none⟩=some (.pointer (some ⟨C.cb,0,none⟩))) [7] ?_;have hHeld:=(⟨x0,c3⟩:_∧_);refine vT 0 rfl ?_;refine nT 1 rfl fun K hK=> ?_;go_simp;refine kO hK ?_;clear hK K;refine vW 2 rfl ?_;refine vW 3 rfl ?_;refine nT 4 rfl fun K hK=> ?_;go_simp;refine kO hK ?_
  clear hK K;refine nT 5 rfl fun K hK=> ?_;go_simp;refine(wY _ _).mono ?_;rintro y V1 ⟨rfl,rfl⟩;go_wp2_with fail;have hHeld:=(⟨x0,c3⟩:_∧_);refine kO hK ?_;clear hK K;refine nT 6 rfl fun K hK=> ?_;go_simp;refine(ig.out).mono ?_;rintro y V2 ⟨rfl,hb⟩;replace hb:Below W4.heap.size W4 V2:=bX hb (Below.refl _ _).drew;replace HS:=qd (HS.out.below hb);replace HR:=qB hb HR;replace HO:=qB hb HO;replace x0:=aA hb x0;replace c3:=aA hb c3;clear hb ig;go_wp2_with fail;have hHeld:=(⟨x0,c3⟩:_∧_);refine kO hK ?_;clear hK K;refine nT 7 rfl fun K hK=> ?_;go_simp;have vQ:=qd (show Calls Tryz.prog 46 #[.pointer (some ⟨b,0,none⟩),.agg #[.int .i64 cc.p,.int .i64 cc.v,.int .i64 cc.u]] V2 _ from yF HS.out.blk cc);refine(vQ.out).mono ?_;rintro y V3 ⟨rfl,hwr,q3⟩;have kZ:=qd (HS.out.Pv hwr q3 ⟨rfl,rfl,rfl,rfl,rfl⟩);replace HR:=qd (HR.out.mod q3 Pg.out);replace HO:=qd (HO.out.mod q3 Lh.out);clear hwr q3 vQ HS x0 c3;go_wp2_with fail;refine kO hK ?_;clear hK K;refine aY (by kernel_rfl) ?_ _;have o0:=HO.out.cell 0;have o1:=HO.out.cell 1;have o2:=HO.out.cell 2;have r0:=HR.out.cell 0;have r1:=HR.out.cell 1;have r2:=HR.out.cell 2;simp only[gl]at o0 o1 o2 r0 r1 r2;obtain⟨f0,f1,f2⟩:=HR.out.f3;have jP:=(((Mod.refl [w.heap.size+1] V3).ak (b:=w.heap.size+1) (.inl (by simp)) 0 (.int .i64 (it.st:Int))).ak (b:=w.heap.size+1) (.inl (by simp)) 1 (.int .u64 (it.key:Int))).ak (b:=w.heap.size+1) (.inl (by simp)) 2 (.int .u64 (it.val:Int))
  have hs3:=kZ.out.Eo jP (fun q hq=>by
   rw[List.mem_singleton.1 hq];refine⟨fun hg=> ?_,by omega⟩;have sO:=HR4.out;rcases aK.1 hg with k|k|k
   ·exact nM.out _ (by omega) (aK.2 (.inl k))
   ·rw[xg]at k;exact nM.out _ (by omega) (aK.2 (.inr (.inl k)))
   ·exact sO k)
  have hto:=hs3.to;have HF:=qd (show∃LQ c' dL,(Ending.returned (.tuple #[.agg #[.int .i64 (it.st:Int),.int .u64 (it.key:Int),.int .u64 (it.val:Int)],.nilIface]))= .returned (.tuple #[wI LQ,.nilIface])∧iT a.ents (fI a) c LQ c'∧Pq dL∧qC W0 E H Kk M I b (fC b C GC mb its) w _ a ids (j5 its id c') gv dL from⟨it,c',cc,rfl,gT.out.1,gT.out.2,hto⟩);clear jP hs3 hto;go_wp2;refine bodyPost_ret (v:= .tuple #[.agg #[.int .i64 (it.st:Int),.int .u64 (it.key:Int),.int .u64 (it.val:Int)],.nilIface]) (by simp[results,Tryz.results33,go_sem,r0,r1,r2]) rfl HF.out
end
end Go.Proofs.YtbfpfgfgfjhpfaaGreatDoor
