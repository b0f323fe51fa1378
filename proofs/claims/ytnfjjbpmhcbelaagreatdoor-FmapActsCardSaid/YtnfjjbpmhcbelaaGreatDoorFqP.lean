/- A map's Next, and a new map, by their contracts. No statement of the claim. -/
import Derived.Test.YtnfjjbpmhcbelaaGreatDoorRmG
import Derived.Test.YtnfjjbpmhcbelaaGreatDoorSqM
import Derived.Test.YtnfjjbpmhcbelaaGreatDoorAppAny
import Derived.Test.YtnfjjbpmhcbelaaGreatDoorGaugeA
namespace Go.Proofs.YtnfjjbpmhcbelaaGreatDoor
set_option maxRecDepth 100000
set_option maxHeartbeats 4000000
open Go.RowKit dI kM ru
section
variable {its : List It} {I Kk M b cb gv id : Nat} {c : gP} {W0 : World} {E : Nat → Addr} {H : Nat → Nat} {a : Pool} {ids : List Nat}
theorem Ue (hn:(its.map It.id).Nodup)(hi:⟨id,cb,c⟩∈its):kK its id c=its:=by
 unfold kK
 conv=>rhs;rw[←List.map_id its]
 apply List.map_congr_left;intro i hi';by_cases h:i.id=id
 ·rw[if_pos h,yK hn hi' hi h];rfl
 ·rw[if_neg h];rfl
theorem Z8 {G0:List Nat}{w0 V:World}{C:fZ}{GC:List Nat}{mb:Nat}{pm pc:Nat}(hS:gB W0 E H Kk M I b G0 w0 C GC mb gv V a ids its)(hm:aj V pm 66 #[pQ b])(hc:aj V pc 132 #[pQ cb])(hi:⟨id,cb,c⟩∈its)(hd:c.done=false)(hok:c.ok):Calls Tryz.prog 91 #[pQ pm,pQ pc] V fun y w'=>∃it,y= .returned (.tuple #[zu it,.nilIface])∧Mod (cb::GC) V w'∧tQ W0 E H Kk M I b G0 w0 C GC mb gv a ids its id cb c V it w':=by
 have hsl:=hS.gI;have hW0:=hS.mod.size;have hB:=(Below.refl V.heap.size V).alloc (Nat.le_refl _) (.cells #[.int .i64 0,.int .u64 0,.int .u64 0] 120);have hR:=aj.new V 120 #[.int .i64 0,.int .u64 0,.int .u64 0];obtain⟨W,hW⟩:∃W,W=V.alloc (.cells #[.int .i64 0,.int .u64 0,.int .u64 0] 120):=⟨_,rfl⟩;rw[←hW]at hB hR;have hst:=abH (hS.below hB) hi hd hok;have lC:=qd hst;have HR:=qd hR;have HW:=qd hW;have HB:=qd hB;have HNf:=qd (show V.heap.size∉dW b C GC mb its from fun hg=>by have:=(hsl _ hg).1;omega)
 have RB:=qd (show V.heap.size∉cb::GC from fun hg=>by
  rcases List.mem_cons.1 hg with k|k
  ·have:cb<V.heap.size:=(hS.nZ.cur _ hi).lt;omega
  ·have:=(hsl _ (aH.2 (.inr (.inr k)))).1;omega)
 have HL:=qd (show V.heap.size<W.heap.size from hR.lt)
 have HCb:=qd (show cb∈bR C.ib mb its from by
  unfold bR;simp only[List.mem_cons,List.mem_map]
  exact .inr (.inr ⟨_,hi,rfl⟩))
 have HW0:=qd hW0;have x0:=(hm.mod (Mod.of_below hB []) (by simp)).cell 0;have y0:=(hc.mod (Mod.of_below hB []) (by simp)).cell 0;simp only[List.getElem?_toArray,List.getElem?_cons_zero]at x0 y0;clear hst hR hW hB hS hi hd hok hm hc hsl hW0;go_in;go_upto_region 1 with fail;rw[←HW.out];go_wp2_with fail;refine lC.out.mono ?_;rintro y w1 ⟨it,rfl,hp⟩
 have hmm:Mod (cb::GC) W w1:=by obtain⟨_,_,_,_,_,_,_,_,q⟩:=hp;exact q
 have hr1:=HR.out.mod hmm RB.out;obtain⟨r0,r1,r2⟩:=hr1.c3;obtain⟨f0,f1,f2⟩:=hr1.f3;have iR:=(((Mod.refl [V.heap.size] w1).ak (b:=V.heap.size) (.inl (by simp)) 0 (nI it.st)).ak (b:=V.heap.size) (.inl (by simp)) 1 (nU it.key)).ak (b:=V.heap.size) (.inl (by simp)) 2 (nU it.val);obtain⟨c',cc,fO,q1,q2,q3,q4,q5,q6⟩:=hp.mod iR (fun q hq=>by rw[List.mem_singleton.1 hq];exact⟨HNf.out,HW0.out,HL.out⟩)
 have hq6:=(Mod.of_below HB.out (cb::GC)).trans q6 (fun q hq _=>hq) (fun q hq hl=>by
  rcases List.mem_cons.1 hq with k|k
  ·rw[k];simp
  ·rcases List.mem_append.1 k with k|k
   ·exact List.mem_cons_of_mem _ k
   ·rw[List.mem_singleton.1 k]at hl;omega)
 have HF:=qd (show∃Lx,(Ending.returned (.tuple #[.agg #[nI it.st,nU it.key,nU it.val],.nilIface]))= .returned (.tuple #[zu Lx,.nilIface])∧Mod (cb::GC) V _∧tQ W0 E H Kk M I b G0 w0 C GC mb gv a ids its id cb c V Lx _ from⟨it,rfl,hq6,c',cc,fO,q1,q2,q3,q4,fun q hq=>(q5 q hq).elim .inl (fun k=> .inr (by have:=HL.out;omega)),hq6⟩);clear hmm hr1 iR q1 q2 q3 q4 q5 q6 hq6 hp lC;unfold zu;go_wp2;refine bodyPost_ret (v:= .tuple #[.agg #[nI it.st,nU it.key,nU it.val],.nilIface]) (by simp[results,Tryz.results91,go_sem,r0,r1,r2]) rfl HF.out
theorem abK {G:List Nat}{w:World}{d9:bq}(h:kR W0 E H Kk M I b G w a ids its gv d9)(hE6:fJ E W0 6)(hi:⟨id,cb,c⟩∈its)(hok:c.ok):Calls Tryz.prog 65 #[pQ b,nI id] w fun y w'=>∃it c' gD,y= .returned (.tuple #[zu it,.nilIface])∧jW a.ents (jB a) c it c'∧Pg gD∧mW W0 E H Kk M I b G w w' a ids (kK its id c') gv gD:=by
 obtain⟨C,GC,mb,hS,rfl,qY⟩:=h;obtain⟨W,hW,hB,hBm,hBr⟩:=kN w 66 #[pQ b] 120 #[.int .i64 0,.int .u64 0,.int .u64 0];have hlt:=fun q hq=>(hS.gI q hq).1;have eH:=qd (show∀q,w.heap.size≤q→q∉dW b C GC mb its from fun q hq hg=>by have:=hlt q hg;omega);have HS:=qd (hS.below hB);have HX:=qd hBm;have HR:=qd hBr;have HB:=qd hB;have HW:=qd hW;have HI:=qd hi;have Fb:=qd hok;have Dt:=qd hS.nZ.nd;have hbk:=(hS.below hB).blk.blk;unfold fZ.cells at hbk;have c16:=hbk.cell 16;simp only[gl]at c16;have x0:=hBm.cell 0;simp only[List.getElem?_toArray,List.getElem?_cons_zero]at x0;have jP:=qd (Ph (hS.below hB).nZ hi);have h6:W.cell? ⟨gE 6,0,none⟩=some (.iface 351 (.pointer (some (E 6)))):=(World.cell?_of_block ((hS.below hB).core.facts.2.2.2.2.2.2.2.2.2.2.2.below.block _ (World.block_lt_of_cell? W0 _ hE6))).trans hE6;have H6:=qd h6
 have HSl:=qd (show∀q∈cb::GC,q<w.heap.size from fun q hq=>by
  rcases List.mem_cons.1 hq with k|k
  ·rw[k];exact(hS.nZ.cur _ hi).lt
  ·exact hlt q (aH.2 (.inr (.inr k))))
 have HCb:=qd (show cb∈bR C.ib mb its from by
  unfold bR;simp only[List.mem_cons,List.mem_map]
  exact .inr (.inr ⟨_,hi,rfl⟩))
 clear hbk hW hB hBm hBr hS hi hok hlt qY h6;go_in;go_upto_region 1 with fail;rw[←HW.out];go_wp2_with fail;refine jP.out.mono ?_;rintro y w1 ⟨rfl,rfl⟩;clear jP x0 c16;go_upto_region 2 with fail;refine dF 132 #[pQ cb] ?_;rintro W1 ⟨hP,hb⟩;have h6:=aI hb H6.out;have HP:=qd hP;replace HS:=qd (HS.out.below hb);replace HX:=qB hb HX;replace HR:=qB hb HR;have HB1:=qd (bP hb HB.out);obtain⟨pc,hpc⟩:∃pc,pc=W.heap.size:=⟨_,rfl⟩;rw[←hpc]at HP⊢;have Ak:=qd hpc;replace H6:=qd h6;clear hP hb hpc h6;have p0:=HP.out.cell 0;simp only[List.getElem?_toArray,List.getElem?_cons_zero]at p0;have hdn:=FH (HS.out.nZ.cur _ HI.out);have HNr:=qd (show(w.heap.size+1)∉[b]from fun hg=>eH.out _ (by omega) (aH.2 (.inl (List.mem_singleton.1 hg))));have IZ:=qd HNr.out;have x0:=HX.out.cell 0;simp only[List.getElem?_toArray,List.getElem?_cons_zero]at x0
 cases hd:c.done with
 |true=>
  rw[hd]at hdn;have HDn:=qd hdn;have Ll:=qd (show Calls Tryz.prog 53 #[pQ b,.agg #[.int .i64 0,.int .i64 0,.int .i64 0]] W1 _ from yJ HS.out.blk ⟨0,0,0⟩);have HIs:=qd (fun V=>adg (E 6) V);have Wx:=qd hd;clear hdn hd;go_wp2_with fail;refine HDn.out.mono ?_;rintro y w2 ⟨rfl,rfl⟩;clear HDn;go_wp2_with fail;refine Ll.out.mono ?_;rintro y w2 ⟨rfl,hB2,hm2⟩;have hs2:=HS.out.Pj hB2 hm2 ⟨rfl,rfl,rfl,rfl,rfl⟩
  have hgb:gE 6∉[b]:=fun hh=>by
   have h1:=World.block_lt_of_cell? W0 _ hE6;have h2:=HS.out.b0.1;rw[List.mem_singleton.1 hh]at h1;exact absurd h1 (by show¬b<W0.heap.size;omega)
  have h6:w2.cell? ⟨gE 6,0,none⟩=some (.iface 351 (.pointer (some (E 6)))):=(World.cell?_of_block (hm2.block _ (World.block_lt_of_cell? W1 _ H6.out) hgb)).trans H6.out;unfold gE at h6;have hr2:=HR.out.mod hm2 HNr.out;obtain⟨r0,r1,r2⟩:=hr2.c3;obtain⟨f0,f1,f2⟩:=hr2.f3;have HS2:=qd hs2;clear hs2 hB2 hm2 hgb hr2 Ll;go_wp2_with fail;refine(HIs.out _).mono ?_;rintro y w3 ⟨rfl,rfl⟩;clear HIs;have iR:=(((Mod.refl [w.heap.size+1] w2).ak (b:=w.heap.size+1) (.inl (by simp)) 0 (.int .i64 3)).ak (b:=w.heap.size+1) (.inl (by simp)) 1 (.int .u64 0)).ak (b:=w.heap.size+1) (.inl (by simp)) 2 (.int .u64 0);have hs3:=HS2.out.BO iR (fun q hq=>by rw[List.mem_singleton.1 hq];exact⟨eH.out _ (by omega),by omega⟩);have hto:=hs3.to;have HF:=qd (show∃it c' gD,(Ending.returned (.tuple #[.agg #[.int .i64 3,.int .u64 0,.int .u64 0],.nilIface]))= .returned (.tuple #[zu it,.nilIface])∧jW a.ents (jB a) c it c'∧Pg gD∧mW W0 E H Kk M I b (dW b C GC mb its) w _ a ids (kK its id c') gv gD from⟨⟨3,0,0⟩,c,⟨0,0,0⟩,rfl,.done Wx.out,⟨by decide,by decide,rfl⟩,by rw[Ue Dt.out HI.out];exact hto⟩);clear iR hs3 hto h6;go_wp2;refine bodyPost_ret (v:= .tuple #[.agg #[.int .i64 3,.int .u64 0,.int .u64 0],.nilIface]) (by simp[results,Tryz.results65,go_sem,r0,r1,r2]) rfl HF.out
 |false=>
  rw[hd]at hdn;have HDn:=qd hdn;have oz:∀(fn:Fn) (first cap:Array Value) (w:World),(Instr.makeFunc fn first cap).run Tryz.prog w= .ok (.func fn first cap) w:=fun _ _ _ _=>rfl
  have UY:=qd (Z7 (S:=cb::GC) (K:=fun V it w1=>tQ W0 E H Kk M I b (dW b C GC mb its) w C GC mb gv a ids its id cb c V it w1) 91 #[pQ w.heap.size,pQ pc] W1 (fun V=>enters_of Tryz.func91 (by kernel_rfl) rfl _ V) (fun q hq=>Nat.lt_of_lt_of_le (HSl.out q hq) HB1.out.size)
   (fun V rU _=>Z8 (HS.out.below rU) (HX.out.mod (Mod.of_below rU []) (by simp)) (HP.out.mod (Mod.of_below rU []) (by simp)) HI.out hd Fb.out))
  have Xm:=qd (show w.heap.size<W1.heap.size∧w.heap.size+1<W1.heap.size from⟨HX.out.lt,HR.out.lt⟩);clear hdn hd p0;have p0:=HP.out.cell 0;simp only[List.getElem?_toArray,List.getElem?_cons_zero]at p0;go_wp2_with fail;refine HDn.out.mono ?_;rintro y w2 ⟨rfl,rfl⟩;clear HDn;go_wp2_with fail;refine UY.out.mono ?_;rintro y w3 ⟨V,it,w2,T,rfl,rU,hmS,hst,hmT,hT⟩;have hxs:∀q,w.heap.size≤q→q<W1.heap.size→q∉cb::GC∧q∉T:=fun q h1 h2=>⟨fun hh=>by have:=HSl.out q hh;omega,fun hh=>by have:=(hT q hh).1;omega⟩;have hX3:=((HX.out.mod (Mod.of_below rU []) (by simp)).mod hmS (hxs _ (Nat.le_refl _) Xm.out.1).1).mod hmT (hxs _ (Nat.le_refl _) Xm.out.1).2;have ny:=((HR.out.mod (Mod.of_below rU []) (by simp)).mod hmS (hxs _ (by omega) Xm.out.2).1).mod hmT (hxs _ (by omega) Xm.out.2).2
  obtain⟨c',cc,fO,q1,q2,q3,q4,q5,q6⟩:=hst.mod hmT (fun q hq=>by
   have:=hT q hq;have:=HB1.out.size
   exact⟨eH.out q (by omega),by omega,by omega⟩)
  replace HX:=qd hX3;replace HR:=qd ny;replace HS:=qd q3;have uy:=qd q4;have j4:=qd (And.intro q1 q2);have HR4:=qd (show(w.heap.size+1)∉fO from fun hg=>(q5 _ hg).elim (fun k=>eH.out _ (by omega) (aH.2 (.inr (.inr k)))) (fun k=>by have:=Xm.out.2;have:=rU.size;omega));have wK:=qd (show∀q,w3.heap.size≤q→q≠b from fun q hq e=>by have:=q3.blk.lt;omega);clear hxs hX3 ny hst hmT hT hmS rU q1 q2 q3 q4 q5 q6 UY p0 x0;unfold zu;go_upto_region 8 with fail;refine dF 120 #[nI it.st,nU it.key,nU it.val] ?_;rintro W4 ⟨hO,hb⟩;replace HS:=qd (HS.out.below hb);replace uy:=qd (uy.out.below hb);replace HX:=qB hb HX;replace HR:=qB hb HR;have HO:=qd hO;have HNo:=qd (show w3.heap.size∉[b]from fun hh=>wK.out _ (Nat.le_refl _) (List.mem_singleton.1 hh));obtain⟨ob,nV⟩:∃ob,ob=w3.heap.size:=⟨_,rfl⟩;rw[←nV]at HO HNo⊢;clear hO hb nV;have hcc:=uy.out;have hbk:=HS.out.blk.blk;unfold fZ.cells at hbk;have c3:=hbk.cell 3;simp only[gl]at c3;have x0:=HX.out.cell 0;simp only[List.getElem?_toArray,List.getElem?_cons_zero]at x0;have fK:=qd (AL (hcc.below (Below.refl W4.heap.size W4).drew));unfold nG at fK;clear hbk hcc;refine rT (fun(w':World)=>w'.cell? ⟨w.heap.size,0,none⟩=some (pQ b)∧w'.cell? ⟨b,3,none⟩=some (pQ C.cb)) [7] ?_;have hHeld:=(⟨x0,c3⟩:_∧_);refine vT 0 rfl ?_;refine nT 1 rfl fun K hK=> ?_;go_simp;refine kO hK ?_;clear hK K;refine vW 2 rfl ?_;refine vW 3 rfl ?_;refine nT 4 rfl fun K hK=> ?_;go_simp;refine kO hK ?_;clear hK K;refine nT 5 rfl fun K hK=> ?_;go_simp;refine(tN _ _).mono ?_
  rintro y V1 ⟨rfl,rfl⟩;go_wp2_with fail;have hHeld:=(⟨x0,c3⟩:_∧_);refine kO hK ?_;clear hK K;refine nT 6 rfl fun K hK=> ?_;go_simp;refine(fK.out).mono ?_;rintro y V2 ⟨rfl,hb⟩;replace hb:Below W4.heap.size W4 V2:=bP hb (Below.refl _ _).drew;replace HS:=qd (HS.out.below hb);replace HR:=qB hb HR;replace HO:=qB hb HO;replace x0:=aI hb x0;replace c3:=aI hb c3;clear hb fK;go_wp2_with fail;have hHeld:=(⟨x0,c3⟩:_∧_);refine kO hK ?_;clear hK K;refine nT 7 rfl fun K hK=> ?_;go_simp;have lK:=qd (show Calls Tryz.prog 53 #[pQ b,.agg #[.int .i64 cc.p,.int .i64 cc.v,.int .i64 cc.u]] V2 _ from yJ HS.out.blk cc);refine(lK.out).mono ?_;rintro y V3 ⟨rfl,hwr,q3⟩;have gU:=qd (HS.out.Pj hwr q3 ⟨rfl,rfl,rfl,rfl,rfl⟩);replace HR:=qd (HR.out.mod q3 IZ.out);replace HO:=qd (HO.out.mod q3 HNo.out);clear hwr q3 lK HS x0 c3;go_wp2_with fail;refine kO hK ?_;clear hK K;refine aR (by kernel_rfl) ?_ _;have o0:=HO.out.cell 0;have o1:=HO.out.cell 1;have o2:=HO.out.cell 2;have r0:=HR.out.cell 0;have r1:=HR.out.cell 1;have r2:=HR.out.cell 2;simp only[gl]at o0 o1 o2 r0 r1 r2;obtain⟨f0,f1,f2⟩:=HR.out.f3;have iR:=(((Mod.refl [w.heap.size+1] V3).ak (b:=w.heap.size+1) (.inl (by simp)) 0 (nI it.st)).ak (b:=w.heap.size+1) (.inl (by simp)) 1 (nU it.key)).ak (b:=w.heap.size+1) (.inl (by simp)) 2 (nU it.val)
  have hs3:=gU.out.BO iR (fun q hq=>by
   rw[List.mem_singleton.1 hq];refine⟨fun hg=> ?_,by omega⟩;have nR:=HR4.out;rcases aH.1 hg with k|k|k
   ·exact eH.out _ (by omega) (aH.2 (.inl k))
   ·rw[xA]at k;exact eH.out _ (by omega) (aH.2 (.inr (.inl k)))
   ·exact nR k)
  have hto:=hs3.to;have HF:=qd (show∃Lx c' gD,(Ending.returned (.tuple #[.agg #[nI it.st,nU it.key,nU it.val],.nilIface]))= .returned (.tuple #[zu Lx,.nilIface])∧jW a.ents (jB a) c Lx c'∧Pg gD∧mW W0 E H Kk M I b (dW b C GC mb its) w _ a ids (kK its id c') gv gD from⟨it,c',cc,rfl,j4.out.1,j4.out.2,hto⟩);clear iR hs3 hto;go_wp2;refine bodyPost_ret (v:= .tuple #[.agg #[nI it.st,nU it.key,nU it.val],.nilIface]) (by simp[results,Tryz.results65,go_sem,r0,r1,r2]) rfl HF.out
end
section
variable {l : List (Nat × Nat)} {W0 w : World} {E : Nat → Addr} {I K M b fb gv n : Nat} {G : List Nat} {its : List It} {R : Nat → Option Nat}
def kv (e:av):Nat×Nat:=(e.key,e.val)
structure jM (R:Nat→Option Nat)(n:Nat)(l:List (Nat×Nat)):Prop where
 j5:l.Pairwise fun a b=>a.1<b.1
 mem:∀k v,(k,v)∈l↔R k=some v
 len:l.length=n
theorem adi {es:List av}(hn:(es.map av.key).Nodup)(hp:l.Perm (es.map kv))(hs:l.Pairwise fun a b=>a.1≤b.1):jM (BR es) es.length l:=by
 have hnd:(l.map Prod.fst).Nodup:=by
  rw[(hp.map Prod.fst).nodup_iff,List.map_map];exact hn
 unfold List.Nodup at hnd;rw[List.pairwise_map]at hnd;refine⟨(hs.and hnd).imp fun h=>by have:=h.1;have:=h.2;omega,fun k v=> ?_,by rw[hp.length_eq,List.length_map]⟩;rw[hp.mem_iff,List.mem_map];unfold BR;constructor
 ·rintro⟨e,he,hk⟩;obtain⟨rfl,rfl⟩:=Prod.mk.inj hk;rw[jc hn he];rfl
 ·intro h
  cases hl:look es k with
  |none=>rw[hl]at h;cases h
  |some e=>
   rw[hl]at h;obtain⟨h1,rfl⟩:=nK hl;exact⟨e,h1,by rw[←Option.some.inj h];rfl⟩
theorem Xn:(Tryz.prog.info? 90).map (fun i=>(i.zero,i.size,i.bytes))=some (some (.agg #[.int .u64 0,.int .u64 0]),2,16):=by kernel_rfl
theorem Xo:sH Tryz.prog 86 90 2 16:=AP Tryz.underlying86 Xn rfl (by decide) (by decide)
theorem abL {H:Nat→Nat}{Kk:Nat}{a:Pool}{ids:List Nat}{d9:bq}(h:kR W0 E H Kk M I b G w a ids its gv d9):∀e∈a.ents,e.hash<18446744073709551616∧e.key<18446744073709551616:=fun e he=>by
 obtain⟨C,GC,mb,h1,_⟩:=h;obtain⟨i,N,g1,g2⟩:=lX.1 he;have h3:=((h1.core.facts.2.2.2.2.2.1 i N g1).hash e g2).1;exact⟨h3.h64,h3.k64⟩
theorem pRq {base t sz:Nat}{v:Value}{xs:List Value}(h:w.ownsRow base t sz v n xs):∀q∈v.ownBlock.toList,base≤q:=fun q hq=>(h.lt q (by simpa using hq)).1
theorem adj (h:dS W0 E K M I fb b G w R n [] gv)(hI:1≤I)(hg:gv≤100000)(h6:fJ E W0 6):Calls Tryz.prog 43 #[pQ fb] w fun y w'=>∃(v:Value) (l:List (Nat×Nat)) (G':List Nat),y= .returned (.tuple #[v,.nilIface])∧jM R n l∧gW w.heap.size w' 90 2 v l.length (l.flatMap pC) G'∧dS W0 E K M I fb b G' w' R n [] (gv+1)∧(∀q∈G',q∈G∨w.heap.size≤q)∧Mod G w w':=by
 obtain⟨F0,a,ids,agp,hB,hR,rfl,hne,h0,hfn,hln⟩:=h;obtain⟨hlts,hnd,hlM,hM,h32,_,_,_,_,adk⟩:=hR.facts;have hop:=abB hR (by simp;omega) hg;simp only[List.nil_append]at hop;have Nq:=qd hop;have Dt:=qd hnd;have adl:=qd (abL hR);have Pt:=qd (And.intro hfn (And.intro hln (And.intro h0 adk.size)));have H6:=qd h6;have mJ:=qd (show a.ents.length+(jB a).length≤224 from by unfold jB;rw[List.length_map];omega);have c0:=hB.cell 0;simp only[List.getElem?_toArray,List.getElem?_cons_zero]at c0;have HB0:=qd hB;have eH:=qd hne;have Rx:=qd hB.lt;clear hop hR hlts hnd hlM hM h32 adk h0 hfn hln hne hg h6 hB hI;go_in;go_wp2_with fail;refine Nq.out.mono ?_;rintro y w1 ⟨cb,rfl,F1,hA1,hs1,hm1⟩;have HA:=qd hA1;have HB:=qd (HB0.out.mod hm1 eH.out);have HF:=qd (show fb∉F1∧∀q∈F1,q∈F0∨w.heap.size≤q from⟨fun hf=>(hs1 fb hf).elim eH.out (fun k=>by have:=Rx.out;omega),hs1⟩);have HM:=qd (show Mod (fb::F0) w w1 from hm1.more (fun q hq=>List.mem_cons_of_mem _ hq));have HO:=qd (gW.nil w1 w.heap.size 90 2 F1);have HW:=qd (Way.start a.ents (jB a));have Ed:=qd (ada a.ents (jB a) ⟨0,0,false⟩);clear hA1 hs1 hm1 Nq c0 HB0 eH;go_wp2
 go_loopg [6] (wP a.ents (jB a) ⟨0,0,false⟩) (fun k v6 wr=>∃(n1:Nat) (F:List Nat) (c:gP) (d9:bq) (out:List av),k=wP a.ents (jB a) c∧out.length+k≤224∧Hid (kR W0 E iP K M I b F wr a ids [⟨gv+1,cb,c⟩] (gv+1) d9)∧Hid (Way a.ents (jB a) n1 out c)∧Hid (fb∉F∧∀q∈F,q∈F0∨w.heap.size≤q)∧Hid (Mod (fb::F0) w wr)∧Hid (aj wr fb 74 #[pQ b])∧Hid (gW w.heap.size wr 90 2 v6 out.length ((out.map kv).flatMap pC) F))
 case atStart=>exact⟨0,F1,_,_,[],rfl,by have:=Ed.out;have:=mJ.out;simp;omega,HA,HW,HF,HM,HB,HO⟩
 case round=>
  clear HA HB HF HM HO HW Ed;obtain⟨n1,F,c,d9,out,hk,hbd,HA,HW,HF,HM,HB,HO⟩:=hrel;have j4:=abK HA.out H6.out (id:=gv+1) (cb:=cb) (c:=c) (by simp) HW.out.ok;unfold zu at j4;replace j4:=qd j4;obtain⟨A6,c6,hv6⟩:=bA HO.out.row;subst hv6;have c0:=HB.out.cell 0;simp only[List.getElem?_toArray,List.getElem?_cons_zero]at c0;have HK:=qd (And.intro hk hbd);clear hk hbd;go_wp2_with fail;refine j4.out.mono ?_;rintro y w5 ⟨it,c',gD,rfl,hns,-,F',Ct,hs5,iR⟩;obtain⟨out',hw',hor⟩:=HW.out.next Dt.out adl.out hns;have yX:=qd (fun hst:it.st≠3=>hns.wP adl.out hst);have Xp:=qd (show kR W0 E iP K M I b F' w5 a ids [⟨gv+1,cb,c'⟩] (gv+1) gD from by simpa[kK]using Ct);have p8:=qd (HB.out.mod iR HF.out.1);have E5:=qd (HM.out.trans iR (fun _ hk _=>hk) (fun q hq hl=>(HF.out.2 q hq).elim (fun k=>List.mem_cons_of_mem _ k) (fun k=>absurd hl (by omega))));have RI:=qd (show fb∉F'∧∀q∈F',q∈F0∨w.heap.size≤q from⟨fun hf=>(hs5 fb hf).elim HF.out.1 (fun k=>by have:=HB.out.lt;omega),fun q hq=>(hs5 q hq).elim (HF.out.2 q) (fun k=> .inr (by have:=HM.out.size;omega))⟩);have HO5:=qd (HO.out.to hs5 iR);have HW5:=qd hw';have HOr:=qd hor;obtain⟨st,ky,vl⟩:=it;clear Ct hs5 iR hns hw' hor j4 HA HB HM HF HO c0;go_upto_region 6 with fail;refine dF 120 #[nI st,nU ky,nU vl] ?_;rintro w6 ⟨mV,hb6⟩;obtain⟨bx,hbx⟩:∃bx,bx=w5.heap.size:=⟨_,rfl⟩;rw[←hbx]at mV⊢;obtain⟨x0,x1,x2⟩:=mV.c3;have Xq:=qd (Xp.out.below hb6);have AJ:=qd (p8.out.mod (Mod.of_below hb6 []) (by simp));have Ci:=qd (E5.out.then (Mod.of_below hb6 _))
  have wR:=qd (HO5.out.below hb6);clear mV hb6 hbx Xp p8 E5 HO5;rcases HOr.out with⟨hst,_,m,_,hout,_,_,hky,hvl,_⟩|⟨hst,hout,_,_,h23,hdn⟩
  ·try simp only at hst hky hvl
   subst hst;subst hky;subst hvl;have Xr:=qd (yX.out (by decide));have HOu:=qd hout
   have hol:out.length<33554432:=by have:=HK.out.2;omega
   have zx:=wR.out.row;have hbs:=Ci.out.size;clear yX hout HOr;go_upto_region 10 with fail;go_wp2_with (at_builtin;refine iK rfl rfl Xo zx rfl rfl rfl rfl rfl (by omega) (by omega) ?_;intro v7 w7 KJ FJ)
   have Pv:=qd (show gW w.heap.size w7 90 2 v7 out'.length ((out'.map kv).flatMap pC) F' from by
    have:=wR.out.push FJ (by simpa using KJ) (fun q hq=>(Xq.out.facts.1 q hq).1);rw[HOu.out]
    simpa[pC,kv]using this)
   have hsm:=pRq zx;have yY:=Lv FJ;have HA7:=qd (Xq.out.mod yY (fun q hq=>⟨wR.out.gs q (by simpa using hq),Nat.le_trans Pt.out.2.2.2 (hsm q hq)⟩));have RJ:=qd (AJ.out.mod yY (fun hq=>by have:=hsm fb hq;have:=Rx.out;omega));have Af:=qd (Ci.out.trans yY (fun _ hk _=>hk) (fun q hq hl=>absurd (hsm q hq) (by omega)));have Ja:=qd (show out'.length+wP a.ents (jB a) c'≤224 from by have:=HK.out;have:=Xr.out;rw[HOu.out,List.length_append,List.length_singleton];omega);have HP7:=qd (show wP a.ents (jB a) c'<gk from by rw[HK.out.1];exact Xr.out);clear KJ FJ yY hsm zx;go_wp2;go_roundg (wP a.ents (jB a) c')
   case measure=>exact HP7.out
   case rel=>exact⟨n1+1,F',c',gD,out',rfl,Ja.out,HA7,HW5,RI,Af,RJ,Pv⟩
  ·try simp only at hst h23 hdn
   subst hout;rcases h23 with rfl|rfl
   ·have Xr:=qd (yX.out (by decide));have Ja:=qd (show out'.length+wP a.ents (jB a) c'≤224 from by have:=HK.out;have:=Xr.out;omega);have HP7:=qd (show wP a.ents (jB a) c'<gk from by rw[HK.out.1];exact Xr.out);clear yX HOr hdn hst;go_wp2;go_roundg (wP a.ents (jB a) c')
    case measure=>exact HP7.out
    case rel=>exact⟨n1+1,F',c',gD,out',rfl,Ja.out,Xq,HW5,RI,Ci,AJ,wR⟩
   ·have WC:=qd (HW5.out.aeD Dt.out (hdn.1 rfl));have hso:=Ud (l:=out'.map kv) (F:=F') (by rw[List.length_map];exact wR.out) (by have:=HK.out;rw[List.length_map];omega);have HSo:=qd hso;clear yX HOr hdn hst hso;go_wp2_with fail;refine HSo.out.mono ?_;rintro y w7 ⟨rfl,l,hp,hs,hO7,yY⟩;have hsm:=pRq wR.out.row;have FK:=qd (adi Dt.out (hp.trans (WC.out.map kv)) hs);have Pv:=qd hO7;have HA7:=qd (Xq.out.mod yY (fun q hq=>⟨wR.out.gs q (by simpa using hq),Nat.le_trans Pt.out.2.2.2 (hsm q hq)⟩));have RJ:=qd (AJ.out.mod yY (fun hq=>by have:=hsm fb hq;have:=Rx.out;omega));have Af:=qd (Ci.out.trans yY (fun _ hk _=>hk) (fun q hq hl=>absurd (hsm q hq) (by have:=Ci.out.size;omega)));have yU:=qd (ZQ HA7.out (j:=0) rfl);have c0:=RJ.out.cell 0;simp only[List.getElem?_toArray,List.getElem?_cons_zero]at c0;clear hp hs hO7 yY hsm HSo Xq AJ Ci wR;go_wp2_with fail;refine yU.out.mono ?_;rintro y w8 ⟨rfl,F8,hA8,tZ,hm8⟩;have HFin:=qd (show dS W0 E K M I fb b (fb::F8) w8 R n [] (gv+1)from⟨F8,a,ids,gD,RJ.out.mod hm8 RI.out.1,hA8,rfl,fun hf=>(tZ fb hf).elim RI.out.1 (fun k=>by have:=RJ.out.lt;omega),Pt.out.2.2.1,Pt.out.1,Pt.out.2.1⟩)
    have HS8:=qd (show∀q∈fb::F8,q∈fb::F0∨w.heap.size≤q from fun q hq=>by
     rcases List.mem_cons.1 hq with k|k
     ·exact .inl (by rw[k];simp)
     ·rcases tZ q k with z|z
      ·exact(RI.out.2 q z).imp (List.mem_cons_of_mem _) id
      ·exact .inr (by have:=Af.out.size;omega))
    have HM8:=qd (Af.out.trans hm8 (fun _ hk _=>hk) (fun q hq hl=>(RI.out.2 q hq).elim (fun k=>List.mem_cons_of_mem _ k) (fun k=>absurd hl (by omega))))
    have HO8:=qd (show gW w.heap.size w8 90 2 (.slice A6 out'.length c6) l.length (l.flatMap pC) (fb::F8)from by
     have h1:=Pv.out.to tZ hm8
     exact⟨h1.row,fun g hg hq=>(List.mem_cons.1 hq).elim (fun e=>by have:=(h1.row.lt g hg).1;have:=Rx.out;omega) (h1.gs g hg)⟩)
    have DZ:=qd (show jM R n l from by rw[←Pt.out.1,←Pt.out.2.1];exact FK.out);clear hA8 tZ hm8 yU Pv RJ Af HA7;go_wp2;refine bodyPost_ret (v:= .tuple #[.slice A6 out'.length c6,.nilIface]) (by simp[results,Tryz.results43,go_sem]) rfl ⟨_,l,_,rfl,DZ.out,HO8.out,HFin.out,HS8.out,HM8.out⟩
def pV (k:Nat):Nat:=if k<9223372036854775808 then 18446744073709551615-k else k-9223372036854775808
theorem BU {x:Nat}(hx:x<18446744073709551616):pV (aA x)=aQ x:=by
 have h1:=ko hx;have h2:=uZ h1;unfold pV aA;by_cases hs:jX (aQ x)=true
 ·have:=h2.1 hs;rw[if_pos hs,if_pos (by omega)];omega
 ·have:=mt h2.2 hs;rw[if_neg hs,if_neg (by omega)];omega
def fC (p:Nat×Nat):List Value:=[.float .f64 (pV p.1),.float .f64 p.2]
def oh (R:Nat→Option Nat):Prop:=∀k v,R k=some v→∃x,x<18446744073709551616∧k=aA x
theorem Xt:(Tryz.prog.info? 62).map (fun i=>(i.zero,i.size,i.bytes))=some (some (.agg #[.float .f64 0,.float .f64 0]),2,16):=by kernel_rfl
theorem Xu:sH Tryz.prog 56 62 2 16:=AP Tryz.underlying56 Xt rfl (by decide) (by decide)
theorem Xv {q:Nat}{p:Nat×Nat}(h:l[q]?=some p):(l.take (q+1)).flatMap fC=(l.take q).flatMap fC++fC p:=by
 rw[List.take_add_one,h,List.flatMap_append];simp
theorem GN (h:dS W0 E K M I fb b G w R n [] gv)(hI:1≤I)(hg:gv≤100000)(h6:fJ E W0 6)(hok:oh R)(hn:n≤192):Calls Tryz.prog 21 #[pQ fb] w fun y w'=>∃(v:Value) (l:List (Nat×Nat)) (G':List Nat),y= .returned (.tuple #[v,.nilIface])∧jM R n l∧gW w.heap.size w' 62 2 v l.length (l.flatMap fC) G'∧dS W0 E K M I fb b G' w' R n [] (gv+1)∧(∀q∈G',q∈G∨w.heap.size≤q)∧Mod G w w':=by
 have hws:∀q∈G,W0.heap.size≤q:=fun q hq=>(h.gI q hq).2;have hW0:=h.adN;have I4:=qd (adj h hI hg h6);have HW0:=qd hW0;have Fb:=qd hok;have Hn:=qd hn;clear hws h hI hg h6 hW0 hok hn;go_in;go_wp2_with fail;refine I4.out.mono ?_;rintro y w1 ⟨v,l,G1,rfl,hrw,ho,hA,hs,hm⟩;have FK:=qd hrw;have HL:=qd (And.intro ho hA);have HS:=qd hs;have HM:=qd hm;have HO:=qd (gW.nil w1 w.heap.size 62 2 G1);obtain⟨A4,c4,hv4⟩:=bA ho.row;subst hv4
 have hlen:l.length≤192:=by rw[hrw.len];exact Hn.out
 clear hrw ho hA hs hm I4;go_wp2;go_loopw [6,8,9,10,21] (fun v6 _ _ _ v21 wr=>∃q:Nat,q≤l.length∧v21=nI q∧Hid (gW w.heap.size wr 90 2 (.slice A4 l.length c4) l.length (l.flatMap pC) G1∧dS W0 E K M I fb b G1 wr R n [] (gv+1))∧Hid (Mod G w wr)∧Hid (gW w.heap.size wr 62 2 v6 q ((l.take q).flatMap fC) G1)) (fun _ _ _ _ v21 _=>l.length-(intOf v21).toNat)
 case atStart=>exact⟨0,by omega,rfl,HL,HM,HO⟩
 case round=>
  clear HL HM HO;obtain⟨q,hq,rfl,HL,HM,HO⟩:=hrel;by_cases hlt:q<l.length
  ·have hlt':(q:Int)<(l.length:Int):=by omega
   have hq0:(0:Int)≤(q:Int):=by omega
   have hwq:IntKind.i64.wrap ((q:Int)+1)=((q+1:Nat):Int):=by rw[IntKind.wrap_i64];omega
   obtain⟨x,hx⟩:∃x,l[q]?=some x:=⟨_,List.getElem?_eq_getElem hlt⟩;obtain⟨g,off,hA,hgl,hc⟩:=(Reads.fD HL.out.1.row).2 (by omega);have r0:wr.cell? ⟨g,off+q*2,none⟩=some (nU x.1):=hc (q*2+0) _ (ME hx (by omega));have r1:wr.cell? ⟨g,off+q*2+1,none⟩=some (nU x.2):=hc (q*2+1) _ (ME hx (by omega));obtain⟨z,hz,Px⟩:=Fb.out x.1 x.2 ((FK.out.mem _ _).1 (List.mem_of_getElem? hx));have hfl:=fun(W:World)=>Qq z hz W;have hkb:=BU hz;rw[←Px,←hkb,←Px]at hfl;have Fy:=qd hfl;have HX:=qd hx;have HJ:=qd (Nat.succ_le_of_lt hlt);have Cj:=qd (show l.length-(intOf (.int .i64 ((q:Int)+1))).toNat<l.length-(intOf (nI q)).toNat from by show l.length-((q:Int)+1).toNat<l.length-(q:Int).toNat;omega);obtain⟨A6,c6,hv6⟩:=bA HO.out.row;subst hA;subst hv6;clear hc hx hfl hkb Px;go_upto_region 8 with fail;refine dF 90 #[nU x.1,nU x.2] ?_;rintro w6 ⟨mV,hb6⟩;have RL:=qd (And.intro (HL.out.1.below hb6) (HL.out.2.below hb6));have Ci:=qd (HM.out.then (Mod.of_below hb6 _));have wR:=qd (HO.out.below hb6);obtain⟨bx,hbx⟩:∃bx,bx=wr.heap.size:=⟨_,rfl⟩;rw[←hbx]at mV⊢;obtain⟨x0,x1⟩:=mV.c2;clear mV hb6 hbx HL HM HO r0 r1;go_wp2_with fail;refine(Fy.out _).mono ?_;rintro y wq ⟨rfl,rfl⟩;have hxx:=@run_callFunc_extern Tryz.prog 37 _ Extern.MathFloatBits.float64frombits Tryz.func37 (by kernel_rfl) (by kernel_rfl) (by kernel_rfl) (by kernel_rfl)
   have GZ:=fun(n:Int) (W:World)=>show(Extern.MathFloatBits.float64frombits #[.int .u64 n]).run Tryz.prog W= .ok (.float .f64 n.toNat) W from rfl;have zx:=wR.out.row;have hbs:=Ci.out.size;go_upto_region 11 with fail;go_wp2_with (at_builtin;refine iK rfl rfl Xu zx rfl rfl rfl rfl rfl (by omega) (by omega) ?_;intro v7 w7 KJ FJ)
   have Pv:=qd (show gW w.heap.size w7 62 2 v7 (q+1) ((l.take (q+1)).flatMap fC) G1 from by
    have:=wR.out.push FJ KJ (fun q hq=>(RL.out.2.gI q hq).1);rw[Xv HX.out]
    exact this)
   have hsm:=pRq zx;have yY:=Lv FJ;have Ja:=qd (show gW w.heap.size w7 90 2 (.slice (some ⟨g,off,none⟩) l.length c4) l.length (l.flatMap pC) G1∧dS W0 E K M I fb b G1 w7 R n [] (gv+1)from⟨⟨FJ.keep RL.out.1.row (Uq RL.out.1.row zx (by decide)),RL.out.1.gs⟩,RL.out.2.mod yY (fun q hq=>⟨wR.out.gs q (by simpa using hq),Nat.le_trans HW0.out (hsm q hq)⟩)⟩);have Af:=qd (Ci.out.trans yY (fun _ hk _=>hk) (fun q hq hl=>absurd (hsm q hq) (by omega)));clear KJ FJ yY hsm zx RL Ci wR;go_wp2;go_roundw
   all_goals first|exact⟨⟨q+1,HJ.out,rfl,Ja,Af,Pv⟩,Cj.out⟩|exact⟨q+1,HJ.out,rfl,Ja,Af,Pv⟩|exact Cj.out
  ·obtain rfl:q=l.length:=by omega
   have hlt':¬(l.length:Int)<(l.length:Int):=by omega
   have hO:=HO.out;rw[List.take_of_length_le (Nat.le_refl _)]at hO;have wR:=qd hO;have HA:=qd HL.out.2;obtain⟨A6,c6,hv6⟩:=bA hO.row;subst hv6;clear hO hq hlt;go_wp2;refine bodyPost_ret (v:= .tuple #[.slice A6 l.length c6,.nilIface]) (by simp[results,Tryz.results21,go_sem]) rfl (by first|exact⟨_,l,_,rfl,FK.out,wR.out,HA.out,HS.out,HM.out⟩|exact⟨_,rfl,l,FK.out,_,wR.out,HA.out,HS.out,HM.out⟩)
def Xw (E:Nat→Addr):List (Nat×Nat)→Value
 | []=> .tuple #[.float .f64 0,.iface 351 (.pointer (some (E 12)))]
 |x::_=> .tuple #[.float .f64 (pV x.1),.nilIface]
theorem dS.env (h:dS W0 E K M I fb b G w R n its gv):Env W0 E w:=by
 obtain⟨F,a,ids,d9,_,h2,_⟩:=h;exact h2.facts.2.2.2.2.2.2.2.2.2
theorem Z9 (h:dS W0 E K M I fb b G w R n [] gv)(hI:1≤I)(hg:gv≤100000)(h6:fJ E W0 6)(h12:fJ E W0 12)(hok:oh R)(hn:n≤192):Calls Tryz.prog 23 #[pQ fb] w fun y w'=>∃(l:List (Nat×Nat)) (G':List Nat),y= .returned (Xw E l)∧jM R n l∧dS W0 E K M I fb b G' w' R n [] (gv+1)∧(∀q∈G',q∈G∨w.heap.size≤q)∧Mod G w w':=by
 have wQ:=qd (GN h hI hg h6 hok hn);have H12:=qd h12;clear h hI hg h6 hok hn h12;go_in;go_wp2_with fail;refine wQ.out.mono ?_;rintro y w1 ⟨v,l,G1,rfl,hrw,ho,hA,hs,hm⟩;have HF:=qd (And.intro hA (And.intro hs hm));have FK:=qd hrw;have aac:fJ E w1 12:=H12.out.of_block hA.env.below.block;unfold fJ at aac;simp only[gE]at aac
 cases l with
 |nil=>
  obtain⟨A,c,rfl⟩:=bA ho.row;clear hrw ho hA hs hm wQ H12;simp only[List.length_nil];go_upto_region 5 with fail;go_region;go_wp2;refine bodyPost_ret (v:= .tuple #[.float .f64 0,.iface 351 (.pointer (some (E 12)))]) (by simp[results,Tryz.results23,go_sem]) rfl ⟨[],G1,rfl,FK.out,HF.out.1.below ((Below.refl _ _).drew),HF.out.2.1,HF.out.2.2.then (Mod.of_below ((Below.refl _ _).drew) _)⟩
 |cons x l=>
  obtain⟨A,c,rfl⟩:=bA ho.row;obtain⟨g,off,hAd,hgl,hc⟩:=(Reads.fD ho.row).2 (by simp);have r0:=hc 0 (.float .f64 (pV x.1)) rfl;rw[Nat.add_zero]at r0;subst hAd
  have hpos:(0:Int)<((x::l).length:Int):=by rw[List.length_cons];omega
  have hne0:((x::l).length:Int)≠0:=by omega
  obtain⟨N,hN⟩:∃N,N=(x::l).length:=⟨_,rfl⟩;rw[←hN]at hpos hne0⊢;clear hrw ho hA hs hm wQ H12 hc hN aac;go_wp2;refine bodyPost_ret (v:= .tuple #[.float .f64 (pV x.1),.nilIface]) (by simp[results,Tryz.results23,go_sem]) rfl ⟨x::l,G1,rfl,FK.out,HF.out⟩
end
section
variable {R : Nat → Option Nat} {n : Nat} {l : PL}
theorem pW (h:jM R n l)(k:Nat):oq l k=R k:=by
 cases hr:R k with
 |some v=>exact(lQ h.j5).2 ((h.mem k v).2 hr)
 |none=>
  cases hg:oq l k with
  |none=>rfl
  |some v=>rw[(h.mem k v).1 ((lQ h.j5).1 hg)]at hr;cases hr
theorem abM (h:jM R n l)(k v:Nat):jM (qA R k (some v)) (Rz (R k) n) (mH l k v):=by
 refine⟨FM h.j5 k v,fun k' v'=> ?_, ?_⟩
 ·rw[←lQ (FM h.j5 k v),XF h.j5,pW h];rfl
 ·rw[EH h.j5,pW h,h.len];rfl
theorem abN (h:jM R n l)(k:Nat):jM (qA R k none) (dnN (R k) n) (lN l k):=by
 refine⟨FP h.j5 k,fun k' v'=> ?_, ?_⟩
 ·rw[←lQ (FP h.j5 k),XG h.j5,pW h];rfl
 ·unfold lN dnN;rw[zP h.j5,pW h]
  cases hr:R k with
  |none=>simp[h.len]
  |some v=>
   have h1:kL l k=true:=by rw[zP h.j5,pW h,hr];rfl
   obtain⟨u,hu,_⟩:=(pG h.j5).1 h1;have h2:=(List.getElem?_eq_some_iff.1 hu).1;have h3:=h.len;simp[List.length_eraseIdx,h.len];omega
theorem GQ {l':PL}(h:jM R n l)(h':jM R n l'):l=l':=
 Qw h.j5 h'.j5 fun p=>(h.mem p.1 p.2).trans (h'.mem p.1 p.2).symm
theorem abO:jM (fun _=>none) 0 []:=⟨List.Pairwise.nil,fun _ _=>by simp,rfl⟩
theorem GR (h:oh R){x:Nat}(hx:x<18446744073709551616)(o:Option Nat):oh (qA R (aA x) o):=fun k v hk=>by
 by_cases hkx:k=aA x
 ·exact⟨x,hx,hkx⟩
 ·rw[Ry hkx]at hk;exact h k v hk
theorem keys_nil:oh (fun _=>none):=fun _ _ h=>by cases h
end
end Go.Proofs.YtnfjjbpmhcbelaaGreatDoor
