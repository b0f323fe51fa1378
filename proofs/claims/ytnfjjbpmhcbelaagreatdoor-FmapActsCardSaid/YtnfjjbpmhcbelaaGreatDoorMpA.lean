/- A map's writes by their contracts. No statement of the claim. -/
import Derived.Test.YtnfjjbpmhcbelaaGreatDoorRmD
import Derived.Test.YtnfjjbpmhcbelaaGreatDoorSqM
import Derived.Test.YtnfjjbpmhcbelaaGreatDoorAppAny
import Derived.Test.YtnfjjbpmhcbelaaGreatDoorGaugeA
import Derived.Maps.RangeWalk
import Derived.Test.YtnfjjbpmhcbelaaGreatDoorCoDA
import Derived.Test.YtnfjjbpmhcbelaaGreatDoorFqA
namespace Go.Proofs.YtnfjjbpmhcbelaaGreatDoor
set_option maxRecDepth 100000
set_option maxHeartbeats 4000000
open Go.RowKit dI Go.MapKept kM
open Go.ChangeMaps (setBlock heap_setBlock_same heap_setBlock_other)
section
section
variable {W0 : World} {E : Nat → Addr} {H : Nat → Nat} {Kk M I b : Nat} {G0 : List Nat} {w0 w w' : World} {C : fZ} {GC : List Nat} {mb gv : Nat} {a : Pool} {ids : List Nat} {its : List It}
theorem gB.wrote (h:gB W0 E H Kk M I b G0 w0 C GC mb gv w a ids its)(hw:Wrote w b C w'):∃C',gB W0 E H Kk M I b G0 w0 C' GC mb gv w' a ids its∧Mod [b] w w'∧C'.cb=C.cb∧C'.ib=C.ib∧C'.lf≤C.lf:=by
 obtain⟨lf,gn,ma,ml,last,all,h1,h2,h3⟩:=hw;exact⟨_,h.Pj h2 h3 ⟨rfl,rfl,rfl,rfl,rfl⟩,h3,rfl,rfl,h1⟩
end
theorem ac3 {W0:World}{E:Nat→Addr}{H:Nat→Nat}{Kk M I b:Nat}{G:List Nat}{w:World}{a:Pool}{ids:List Nat}{its:List It}{gv:Nat}{d9:bq}(h:kR W0 E H Kk M I b G w a ids its gv d9)(e:av)(he:mG H e):Calls Tryz.prog 34 #[pQ b,nU e.key,nU e.val,nU e.hash] w fun y w'=>y= .returned (jf E (tL M a.ents e.key))∧∃a' aK gD,mW W0 E H Kk M I b G w w' a' aK its gv gD∧BK H Kk M a ids e a' aK:=by
 obtain⟨C,GC,mb,hS,rfl,qY⟩:=h;obtain⟨W,hW,hB,hBm,WX,QO,EU,Ef⟩:=qX5 w 66 #[pQ b] 41 #[nU e.key] 41 #[nU e.val] 41 #[nU e.hash] 28 #[.nilIface];have hlt:=fun q hq=>(hS.gI q hq).1;have eH:=qd (show∀q,w.heap.size≤q→q∉dW b C GC mb its from fun q hq hg=>by have:=hlt q hg;omega);have HS:=qd (hS.below hB);have hsz:=hB.size;have FC:=qd hBm;have Lm:=qd WX;have HBv:=qd QO;have WY:=qd EU;have p9:=qd Ef;have hWl:=Ef.lt;have HW:=qd hW;have HE:=qd he;clear hW hB hS hlt hBm WX QO EU Ef;have oz:∀(fn:Fn) (first cap:Array Value) (w:World),(Instr.makeFunc fn first cap).run Tryz.prog w= .ok (.func fn first cap) w:=fun _ _ _ _=>rfl;have pF:=(Below.refl W.heap.size W).alloc (Nat.le_refl _) (.cells #[.nilIface] 28)
 have uy:=qd (BL (S:=(w.heap.size+1+1+1+1)::GC) (K:=fun w1=>JV W0 E H Kk M I b (dW b C GC mb its) w C GC mb gv its (BK H Kk M a ids e) (w.heap.size+1+1+1+1) 28 (jf E (tL M a.ents e.key)) (W.alloc (.cells #[.nilIface] 28)) w1) 51 #[pQ w.heap.size,.pointer (some ⟨(w.heap.size+1),0,none⟩),.pointer (some ⟨(w.heap.size+1+1),0,none⟩),.pointer (some ⟨(w.heap.size+1+1+1),0,none⟩),.pointer (some ⟨(w.heap.size+1+1+1+1),0,none⟩)] W (fun V=>enters_of Tryz.func51 (by kernel_rfl) rfl _ V)
  (fun hg=>by
   rcases List.mem_cons.1 hg with k|k
   ·omega
   ·exact eH.out _ (by omega) (aH.2 (.inr (.inr k))))
  ((abC (HS.out.below pF) (FC.out.mod (Mod.of_below pF []) (by simp)) (Lm.out.mod (Mod.of_below pF []) (by simp)) (HBv.out.mod (Mod.of_below pF []) (by simp)) (WY.out.mod (Mod.of_below pF []) (by simp)) (p9.out.mod (Mod.of_below pF []) (by simp)) ⟨eH.out _ (by omega),by omega⟩ HE.out).mono (fun y w1 hh=>⟨hh.1,(by obtain⟨_,_,_,_,_,_,_,q⟩:=hh.2;exact q),hh.2⟩)))
 have Pk:=qd pF;clear pF;go_in;go_upto_region 2 with fail;rw[←HW.out];go_wp2_with fail;refine uy.out.mono ?_;rintro y w1 ⟨rfl,hm1,fO,a',aK,hS1,hpm,hr1,hsu,hm2⟩;have HS:=qd hS1;have yG:=qd hpm;have HR:=qd hr1
 have hx1:=(FC.out.mod (Mod.of_below Pk.out []) (by simp)).mod hm1 (fun hg=>by
  rcases List.mem_cons.1 hg with k|k
  ·omega
  ·exact eH.out _ (Nat.le_refl _) (aH.2 (.inr (.inr k))))
 have HX:=qd hx1;have IZ:=qd (show(w.heap.size+1+1+1+1)∉[b]from fun hg=>eH.out _ (by omega) (aH.2 (.inl (List.mem_singleton.1 hg))));clear hm1 hS1 hpm hr1 hsu hm2 hx1 uy FC Lm HBv WY p9 Pk
 cases hfu:tK M a.ents e.key with
 |false=>
  have hpc:tL M a.ents e.key=0:=by unfold tL;rw[hfu];rfl
  rw[hpc]at HR;have Ed:=qd hpc;clear hpc;rw[UN]at HR;have r0:=HR.out.cell 0;simp only[List.getElem?_toArray,List.getElem?_cons_zero]at r0;go_upto_region 8 with fail;clear r0;obtain⟨cc,hcc⟩:=HS.out.core.c_;have hbk:=HS.out.blk.blk;unfold fZ.cells at hbk;have c3:=hbk.cell 3;simp only[gl]at c3;have x0:=HX.out.cell 0;simp only[List.getElem?_toArray,List.getElem?_cons_zero]at x0;have fK:=qd (AL (hcc.below (Below.refl w1.heap.size w1).drew));unfold nG at fK;clear hbk hcc;refine rT (fun(w':World)=>w'.cell? ⟨w.heap.size,0,none⟩=some (pQ b)∧w'.cell? ⟨b,3,none⟩=some (pQ C.cb)) [7] ?_;have hHeld:=(⟨x0,c3⟩:_∧_);refine vT 0 rfl ?_;refine nT 1 rfl fun K hK=> ?_;go_simp;refine kO hK ?_;clear hK K;refine vW 2 rfl ?_;refine vW 3 rfl ?_;refine nT 4 rfl fun K hK=> ?_;go_simp;refine kO hK ?_;clear hK K;refine nT 5 rfl fun K hK=> ?_;go_simp;refine(tN _ _).mono ?_;rintro y V1 ⟨rfl,rfl⟩;go_wp2_with fail;have hHeld:=(⟨x0,c3⟩:_∧_);refine kO hK ?_;clear hK K;refine nT 6 rfl fun K hK=> ?_;go_simp;refine(fK.out).mono ?_;rintro y V2 ⟨rfl,hb⟩;replace hb:Below w1.heap.size w1 V2:=bP hb (Below.refl _ _).drew;replace HS:=qd (HS.out.below hb);replace x0:=aI hb x0;replace c3:=aI hb c3;clear hb fK;go_wp2_with fail;have hHeld:=(⟨x0,c3⟩:_∧_);refine kO hK ?_;clear hK K;refine nT 7 rfl fun K hK=> ?_;go_simp;have lK:=qd (show Calls Tryz.prog 56 #[pQ b,.agg #[.int .i64 cc.p,.int .i64 cc.v,.int .i64 cc.u]] V2 _ from Pf HS.out.blk HS.out.kk cc);refine(lK.out).mono ?_;rintro y V3 ⟨rfl,hwr⟩
  obtain⟨C3,I8,q3,ZN,ZO,ZP⟩:=HS.out.wrote hwr;have gU:=qd I8;clear I8 hwr q3 ZN ZO ZP lK HS x0 c3;go_wp2_with fail;refine kO hK ?_;clear hK K;refine aR (by kernel_rfl) ?_ _;go_wp2;go_ret;exact⟨by rw[Ed.out];rfl,a',aK,_,gU.out.to,yG.out⟩
 |true=>
  have hpc:tL M a.ents e.key=2:=by unfold tL;rw[hfu];rfl
  rw[hpc]at HR;have Ed:=qd hpc;clear hpc;rw[iI E (by omega:1≤2)]at HR;have r0:=HR.out.cell 0;simp only[List.getElem?_toArray,List.getElem?_cons_zero]at r0;go_upto_region 6 with fail;clear r0;obtain⟨cc,hcc⟩:=HS.out.core.c_;have hbk:=HS.out.blk.blk;unfold fZ.cells at hbk;have c3:=hbk.cell 3;simp only[gl]at c3;have x0:=HX.out.cell 0;simp only[List.getElem?_toArray,List.getElem?_cons_zero]at x0;have fK:=qd (AL (hcc.below (Below.refl w1.heap.size w1).drew));unfold nG at fK;clear hbk hcc;refine rT (fun(w':World)=>w'.cell? ⟨w.heap.size,0,none⟩=some (pQ b)∧w'.cell? ⟨b,3,none⟩=some (pQ C.cb)) [7] ?_;have hHeld:=(⟨x0,c3⟩:_∧_);refine vT 0 rfl ?_;refine nT 1 rfl fun K hK=> ?_;go_simp;refine kO hK ?_;clear hK K;refine vW 2 rfl ?_;refine vW 3 rfl ?_;refine nT 4 rfl fun K hK=> ?_;go_simp;refine kO hK ?_;clear hK K;refine nT 5 rfl fun K hK=> ?_;go_simp;refine(tN _ _).mono ?_;rintro y V1 ⟨rfl,rfl⟩;go_wp2_with fail;have hHeld:=(⟨x0,c3⟩:_∧_);refine kO hK ?_;clear hK K;refine nT 6 rfl fun K hK=> ?_;go_simp;refine(fK.out).mono ?_;rintro y V2 ⟨rfl,hb⟩;replace hb:Below w1.heap.size w1 V2:=bP hb (Below.refl _ _).drew;replace HS:=qd (HS.out.below hb);replace HR:=qB hb HR;replace x0:=aI hb x0;replace c3:=aI hb c3;clear hb fK;go_wp2_with fail;have hHeld:=(⟨x0,c3⟩:_∧_);refine kO hK ?_;clear hK K;refine nT 7 rfl fun K hK=> ?_;go_simp;have lK:=qd (show Calls Tryz.prog 53 #[pQ b,.agg #[.int .i64 cc.p,.int .i64 cc.v,.int .i64 cc.u]] V2 _ from yJ HS.out.blk cc)
  refine(lK.out).mono ?_;rintro y V3 ⟨rfl,hwr,q3⟩;have gU:=qd (HS.out.Pj hwr q3 ⟨rfl,rfl,rfl,rfl,rfl⟩);replace HR:=qd (HR.out.mod q3 IZ.out);clear hwr q3 lK HS x0 c3;go_wp2_with fail;refine kO hK ?_;clear hK K;refine aR (by kernel_rfl) ?_ _;have r0:=HR.out.cell 0;simp only[List.getElem?_toArray,List.getElem?_cons_zero]at r0;go_wp2;go_ret;exact⟨by rw[Ed.out,iI E (by omega:1≤2)];rfl,a',aK,_,gU.out.to,yG.out⟩
theorem WZ {W0:World}{E:Nat→Addr}{H:Nat→Nat}{Kk M I b:Nat}{G:List Nat}{w:World}{a:Pool}{ids:List Nat}{its:List It}{gv:Nat}{d9:bq}(h:kR W0 E H Kk M I b G w a ids its gv d9)(e:av)(he:mG H e):Calls Tryz.prog 40 #[pQ b,nU e.key,nU e.hash] w fun y w'=>y= .returned (.bool (look a.ents e.key).isSome)∧∃a' aK gD,mW W0 E H Kk M I b G w w' a' aK its gv gD∧a'.ents.Perm (rest a.ents e.key):=by
 obtain⟨iv,hiv⟩:∃i,i=(look a.ents e.key).isSome:=⟨_,rfl⟩;rw[←hiv];have HIv:=qd hiv;clear hiv;obtain⟨C,GC,mb,hS,rfl,qY⟩:=h;obtain⟨W,hW,hB,hBm,WX,EU,Ef⟩:=qX4 w 66 #[pQ b] 41 #[nU e.key] 41 #[nU e.hash] 4 #[.bool false];have hlt:=fun q hq=>(hS.gI q hq).1;have eH:=qd (show∀q,w.heap.size≤q→q∉dW b C GC mb its from fun q hq hg=>by have:=hlt q hg;omega);have HS:=qd (hS.below hB);have hsz:=hB.size;have FC:=qd hBm;have Lm:=qd WX;have WY:=qd EU;have p9:=qd Ef;have hWl:=Ef.lt;have HW:=qd hW;have HE:=qd he;clear hW hB hS hlt hBm WX EU Ef;have oz:∀(fn:Fn) (first cap:Array Value) (w:World),(Instr.makeFunc fn first cap).run Tryz.prog w= .ok (.func fn first cap) w:=fun _ _ _ _=>rfl;have pF:=(Below.refl W.heap.size W).alloc (Nat.le_refl _) (.cells #[.nilIface] 28)
 have uy:=qd (BL (S:=(w.heap.size+1+1+1)::GC) (K:=fun w1=>JV W0 E H Kk M I b (dW b C GC mb its) w C GC mb gv its (fun a' _=>a'.ents.Perm (rest a.ents e.key)) (w.heap.size+1+1+1) 4 (.bool (look a.ents e.key).isSome) (W.alloc (.cells #[.nilIface] 28)) w1) 60 #[pQ w.heap.size,.pointer (some ⟨(w.heap.size+1),0,none⟩),.pointer (some ⟨(w.heap.size+1+1),0,none⟩),.pointer (some ⟨(w.heap.size+1+1+1),0,none⟩)] W (fun V=>enters_of Tryz.func60 (by kernel_rfl) rfl _ V)
  (fun hg=>by
   rcases List.mem_cons.1 hg with k|k
   ·omega
   ·exact eH.out _ (by omega) (aH.2 (.inr (.inr k))))
  ((abD (HS.out.below pF) (FC.out.mod (Mod.of_below pF []) (by simp)) (Lm.out.mod (Mod.of_below pF []) (by simp)) (WY.out.mod (Mod.of_below pF []) (by simp)) (p9.out.mod (Mod.of_below pF []) (by simp)) ⟨eH.out _ (by omega),by omega⟩ HE.out).mono (fun y w1 hh=>⟨hh.1,(by obtain⟨_,_,_,_,_,_,_,q⟩:=hh.2;exact q),hh.2⟩)))
 have Pk:=qd pF;clear pF;go_in;go_upto_region 2 with fail;rw[←HW.out];go_wp2_with fail;refine uy.out.mono ?_;rintro y w1 ⟨rfl,hm1,fO,a',aK,hS1,hpm,hr1,hsu,hm2⟩;have HS:=qd hS1;have yG:=qd hpm;have HR:=qd hr1
 have hx1:=(FC.out.mod (Mod.of_below Pk.out []) (by simp)).mod hm1 (fun hg=>by
  rcases List.mem_cons.1 hg with k|k
  ·omega
  ·exact eH.out _ (Nat.le_refl _) (aH.2 (.inr (.inr k))))
 have HX:=qd hx1;have IZ:=qd (show(w.heap.size+1+1+1)∉[b]from fun hg=>eH.out _ (by omega) (aH.2 (.inl (List.mem_singleton.1 hg))));clear hm1 hS1 hpm hr1 hsu hm2 hx1 uy FC Lm WY p9 Pk;rw[←HIv.out]at HR;go_upto_region 3 with fail;obtain⟨cc,hcc⟩:=HS.out.core.c_;have hbk:=HS.out.blk.blk;unfold fZ.cells at hbk;have c3:=hbk.cell 3;simp only[gl]at c3;have x0:=HX.out.cell 0;simp only[List.getElem?_toArray,List.getElem?_cons_zero]at x0;have fK:=qd (AL (hcc.below (Below.refl w1.heap.size w1).drew));unfold nG at fK;clear hbk hcc;refine rT (fun(w':World)=>w'.cell? ⟨w.heap.size,0,none⟩=some (pQ b)∧w'.cell? ⟨b,3,none⟩=some (pQ C.cb)) [7] ?_;have hHeld:=(⟨x0,c3⟩:_∧_);refine vT 0 rfl ?_;refine nT 1 rfl fun K hK=> ?_;go_simp;refine kO hK ?_;clear hK K;refine vW 2 rfl ?_;refine vW 3 rfl ?_;refine nT 4 rfl fun K hK=> ?_;go_simp;refine kO hK ?_;clear hK K;refine nT 5 rfl fun K hK=> ?_;go_simp;refine(tN _ _).mono ?_;rintro y V1 ⟨rfl,rfl⟩;go_wp2_with fail;have hHeld:=(⟨x0,c3⟩:_∧_);refine kO hK ?_;clear hK K;refine nT 6 rfl fun K hK=> ?_;go_simp;refine(fK.out).mono ?_;rintro y V2 ⟨rfl,hb⟩;replace hb:Below w1.heap.size w1 V2:=bP hb (Below.refl _ _).drew;replace HS:=qd (HS.out.below hb);replace HR:=qB hb HR;replace x0:=aI hb x0;replace c3:=aI hb c3;clear hb fK;go_wp2_with fail;have hHeld:=(⟨x0,c3⟩:_∧_);refine kO hK ?_;clear hK K;refine nT 7 rfl fun K hK=> ?_;go_simp
 have lK:=qd (show Calls Tryz.prog 56 #[pQ b,.agg #[.int .i64 cc.p,.int .i64 cc.v,.int .i64 cc.u]] V2 _ from Pf HS.out.blk HS.out.kk cc);refine(lK.out).mono ?_;rintro y V3 ⟨rfl,hwr⟩;obtain⟨C3,I8,q3,ZN,ZO,ZP⟩:=HS.out.wrote hwr;have gU:=qd I8;replace HR:=qd (HR.out.mod q3 IZ.out);clear I8 hwr q3 ZN ZO ZP lK HS x0 c3;go_wp2_with fail;refine kO hK ?_;clear hK K;refine aR (by kernel_rfl) ?_ _;have r0:=HR.out.cell 0;simp only[List.getElem?_toArray,List.getElem?_cons_zero]at r0;go_wp2;go_ret;exact⟨rfl,a',aK,_,gU.out.to,yG.out⟩
end
section
variable {W0 w : World} {E : Nat → Addr}
theorem ac4 (H:Nat→Nat)(hE:Env W0 E w)(k m i:Int)(hcf:oD k m i=true)(K M I:Nat)(hkm:(1≤K∧K≤64)∧(1≤M∧M≤192)∧k=(K:Int)∧m=(M:Int)∧i=(I:Int))(EO:1≤I∧I≤8):Calls Tryz.prog 29 #[gL k m i] w fun y w'=>∃b G,y= .returned (.tuple #[pQ b,.nilIface])∧kR W0 E H K M I b G w' nN [] [] 0 ⟨0,0,0⟩∧(∀q∈G,w.heap.size≤q)∧Below w.heap.size w w':=by
 obtain⟨hK,hM,rfl,rfl,rfl⟩:=hkm;have HI:=qd (And.intro hK (And.intro hM EO));have hB0:=aj.new w 23 #[nI K,nI M,nI I];have hb0:=(Below.refl w.heap.size w).alloc (Nat.le_refl _) (.cells #[nI K,nI M,nI I] 23);obtain⟨W,hW⟩:∃W,W=w.alloc (.cells #[nI K,nI M,nI I] 23):=⟨_,rfl⟩;rw[←hW]at hB0 hb0;have hnb:=ZJ H (hE.next hb0) (K:Int) (M:Int) (I:Int) hcf K M I ⟨hK,hM,rfl,rfl,rfl⟩;have c:=hB0.c3;unfold gL at hnb⊢;have jR:=qd hnb;have HX:=qd hB0;have HB:=qd hb0;have HW:=qd hW;have HE:=qd hE;clear hnb hB0 hb0 hW hK hM EO hE;go_in;go_upto_region 1 with fail;rw[←HW.out];go_wp2_with fail;refine jR.out.mono ?_;rintro y w1 ⟨cb,rfl,hnew⟩;obtain⟨GC,hC,hsu,hmo⟩:=acX hnew;have hb1:=hmo.Bf;have HC:=qd hC;have Ee:=qd (show∀q∈GC,W.heap.size≤q from fun q hq=>(hsu q hq).elim (fun k=>by cases k) (fun k=>k));have HGl:=qd (show∀q∈GC,q<w1.heap.size from fun q hq=>(hC.facts.2.2.2.2.2.2.2.2.2.2.1 q hq).1);replace HX:=qB hb1 HX;have HB1:=qd (bP hb1 HB.out);have Rx:=qd hb1.size;have HZ:=qd (show w.heap.size<W.heap.size from by rw[HW.out];simp);clear hnew hC hsu hmo hb1 jR c;have c:=HX.out.c3;have W9:=qd (WU I HI.out.2.2 w1);unfold bg;go_wp2_with fail;refine W9.out.mono ?_;rintro y w2 ⟨rfl,hit,hb2⟩;replace HC:=qd (HC.out.below hb2);replace HX:=qB hb2 HX;have HB2:=qd (bP hb2 HB1.out);have HIa:=qd hit;have HL1:=qd (show W.heap.size≤w1.heap.size∧w1.heap.size+1<w2.heap.size from⟨Rx.out,hit.blk.lt⟩);clear hit hb2 W9 c;have c:=HX.out.c3
 obtain⟨ib,hib⟩:∃ib,ib=w1.heap.size+1:=⟨_,rfl⟩;obtain⟨mb,hmb⟩:∃mb,mb=w1.heap.size:=⟨_,rfl⟩;rw[←hib]at HIa HL1⊢;rw[←hmb]at HIa;have HQ:=qd (show mb=w1.heap.size∧ib=w1.heap.size+1 from⟨hmb,hib⟩);clear hib hmb;obtain⟨C,BQ⟩:∃C:fZ,C=⟨(K:Int),(M:Int),(I:Int),cb,0,0,⟨0,0,0⟩,⟨0,0,0⟩,ib,⟨0,0,0⟩,⟨0,0,0⟩⟩:=⟨_,rfl⟩;have hbb:=(Below.refl w2.heap.size w2).alloc (Nat.le_refl _) (.cells C.cells 103);have hnb:=aj.new w2 103 C.cells
 have hS:gB W0 E H K M I w2.heap.size [] w C GC mb 0 (w2.alloc (.cells C.cells 103)) nN [] []:=by
  have h1:=HL1.out.1;have h2:=HL1.out.2;obtain⟨g1,g2⟩:=HQ.out;have hg:=HGl.out;have hs:=Ee.out;have hz:=HZ.out;have hw0:=HE.out.size
  have e1:C.cb=cb:=by rw[BQ]
  have e2:C.ib=ib:=by rw[BQ]
  have hf:∀q,q∈bR ib mb []→q=ib∨q=mb:=fun q hq=>by unfold bR at hq;simpa using hq
  refine⟨⟨hnb,by rw[BQ];exact Nat.zero_le _,by rw[BQ];exact Nat.zero_le _⟩,by rw[BQ];exact⟨rfl,rfl,rfl⟩,by rw[e1];exact HC.out.below hbb,by rw[e2];exact HIa.out.below hbb,⟨by omega,fun q hq=> ?_⟩,⟨fun hh=>by have:=hg _ hh;omega,fun hh=> ?_,fun q hq hh=> ?_⟩,fun q hq=> .inr ?_,(Mod.of_below (bP hbb HB2.out) []),hw0⟩
  ·rw[e2]at hq;rcases hf q hq with k|k<;>omega
  ·rw[e2]at hh;rcases hf _ hh with k|k<;>omega
  ·rw[e2]at hq;have:=hg q hh;rcases hf q hq with k|k<;>omega
  ·rcases aH.1 hq with k|k|k
   ·omega
   ·rw[e2]at k;rcases hf q k with k|k<;>omega
   ·have:=hs q k;omega
 have hto:=hS.to;have hbz:=bP hbb HB2.out;rw[BQ]at hto hbz;unfold fZ.cells at hto hbz;have HF:=qd (And.intro hto hbz);clear hS hto hbz hbb hnb BQ;go_wp2;refine bodyPost_ret (v:= .tuple #[pQ w2.heap.size,.nilIface]) (by simp[results,Tryz.results29,go_sem]) rfl ?_;obtain⟨G',k1,k2,k3⟩:=HF.out.1;exact⟨w2.heap.size,G',rfl,k1,fun q hq=>(k2 q hq).elim (fun z=>by cases z) (fun z=>z),HF.out.2⟩
theorem Ua (hE:Env W0 E w)(k m i:Int)(hcf:oD k m i=false):Calls Tryz.prog 29 #[gL k m i] w fun y w'=>y= .returned (.tuple #[.pointer none,jf E 1])∧Below w.heap.size w w':=by
 have hB0:=aj.new w 23 #[.int .i64 k,.int .i64 m,.int .i64 i];have hb0:=(Below.refl w.heap.size w).alloc (Nat.le_refl _) (.cells #[.int .i64 k,.int .i64 m,.int .i64 i] 23);obtain⟨W,hW⟩:∃W,W=w.alloc (.cells #[.int .i64 k,.int .i64 m,.int .i64 i] 23):=⟨_,rfl⟩;rw[←hW]at hB0 hb0;have hnb:=O9 (hE.next hb0) k m i hcf;obtain⟨c0,c1,c2⟩:=hB0.c3;rw[iI E (by omega:1≤1)]at hnb⊢;unfold gL at hnb⊢;have jR:=qd hnb;have HB:=qd hb0;have HW:=qd hW;clear hnb hB0 hb0 hW hE;go_in;go_upto_region 1 with fail;rw[←HW.out];go_wp2_with fail;refine jR.out.mono ?_;rintro y w1 ⟨rfl,hb⟩;have HB1:=qd (bP hb HB.out);clear hb jR;go_wp2;refine bodyPost_ret (v:= .tuple #[.pointer none,.iface 351 (.pointer (some (E 1)))]) (by simp[results,Tryz.results29,go_sem]) rfl ⟨rfl,HB1.out⟩
theorem ac5 {H:Nat→Nat}{Kk M I b:Nat}{G:List Nat}{a:Pool}{ids:List Nat}{its:List It}{gv:Nat}{d9:bq}(h:kR W0 E H Kk M I b G w a ids its gv d9)(key:Nat)(h64:H key<18446744073709551616):Calls Tryz.prog 41 #[pQ b,nU key,.int .u64 (H key:Int)] w fun y w'=>y= .returned (GL a.ents key)∧∃gD,mW W0 E H Kk M I b G w w' a ids its gv gD:=by
 obtain⟨C,GC,mb,hS,rfl,qY⟩:=h;have hbk:=hS.blk.blk;unfold fZ.cells at hbk;have c3:=hbk.cell 3;simp only[gl]at c3;have hget:=acZ hS.core key h64;unfold bg GL at hget;obtain⟨gu,hgu⟩:∃g:Int,g=(((look a.ents key).getD ⟨0,0,0⟩).val:Int):=⟨_,rfl⟩;obtain⟨gi,hgi⟩:∃i,i=(look a.ents key).isSome:=⟨_,rfl⟩;unfold GL;rw[←hgu,←hgi]at hget⊢;have QU:=qd hget;have HS:=qd hS;clear hgu hgi hget hbk hS qY;go_in;go_wp2_with fail;refine QU.out.mono ?_;rintro y w1 ⟨rfl,hto⟩;obtain⟨fO,hs1,hsu,hmo⟩:=HS.out.ZL hto;replace HS:=qd hs1;clear hto hs1 hsu hmo QU c3;obtain⟨cc,hcc⟩:=HS.out.core.c_;have fK:=qd (AL hcc);unfold nG at fK;have hbk:=HS.out.blk.blk;unfold fZ.cells at hbk;have c3:=hbk.cell 3;simp only[gl]at c3;clear hbk hcc;go_wp2_with fail;refine(tN _ _).mono ?_;rintro y w2 ⟨rfl,rfl⟩;go_wp2_with fail;refine fK.out.mono ?_;rintro y w2 ⟨rfl,hb⟩;replace HS:=qd (HS.out.below hb);clear hb fK c3;have Ll:=qd (show Calls Tryz.prog 53 #[pQ b,.agg #[.int .i64 cc.p,.int .i64 cc.v,.int .i64 cc.u]] w2 _ from yJ HS.out.blk cc);go_wp2_with fail;refine Ll.out.mono ?_;rintro y w3 ⟨rfl,hB3,gZ⟩;have HE:=qd (HS.out.Pj hB3 gZ ⟨rfl,rfl,rfl,rfl,rfl⟩).to;clear hB3 gZ HS Ll;go_wp2;refine bodyPost_ret (v:= .tuple #[.int .u64 gu,.bool gi]) (by simp[results,Tryz.results41,go_sem]) rfl ⟨rfl,_,HE.out⟩
end
section
variable {ops : Array Oper} {rest : List Oper} {o : Oper} {a : Act} {Q : Exit → Act → World → Prop} {r : Nat} {seen : Array Nat} {E : Nat → Addr} {w2 : World}
theorem Eh {α β:Type}(f:α→β):∀(l:List α) (j:Nat),(l.map f).eraseIdx j=(l.eraseIdx j).map f
 | [],_=>by simp
 |x::l,0=>rfl
 |x::l,j+1=>by simp[Eh f l j]
section
variable {P : Program} {w w' : World} {b g : Nat} {l : List (Nat × Nat)} {t k e : TypeId}
theorem jh.del (h:jh w b g l)(ht:P.underlying t=some (.map k e))(hk:P.underlying k=some (.int .i64)){j:Nat}{p:Nat×Nat}(hj:l[j]?=some p)(hn:(l.map Prod.fst).Nodup)(ty:TypeId):
  (Builtin.delete_ #[t,k] ty #[.map (some b),nI p.1]).run P w= .ok (.tuple #[]) (setBlock w b (.map ((l.eraseIdx j).map nO).toArray g)):=by
 obtain⟨a,h1,h2,h4⟩:=BM (p.1:Int) l 0;have h3:=run_findKey (P:=P) (w:=w) hk h1
 cases a with
 |none=>
  have:nP l (p.1:Int)=none:=by cases hf:nP l (p.1:Int)with|none=>rfl|some q=>rw[hf]at h2;cases h2
  exact absurd rfl (BN.1 this p (List.mem_of_getElem? hj))
 |some q=>
  obtain⟨i,v⟩:=q;obtain⟨j',h5,h6⟩:=h4 _ rfl
  have hij:i=j:=by
   simp only[Nat.zero_add]at h5;rw[List.getElem?_map]at h6
   cases hq:l[j']? with
   |none=>rw[hq]at h6;cases h6
   |some q'=>
    rw[hq]at h6
    have e0:(q'.1:Int)=(p.1:Int):=by simpa using h6
    have e1:q'.1=p.1:=by omega
    have a1:(l.map Prod.fst)[j']?=some p.1:=by rw[List.getElem?_map,hq];simp[e1]
    have a2:(l.map Prod.fst)[j]?=some p.1:=by rw[List.getElem?_map,hj];rfl
    obtain⟨b1,b2⟩:=List.getElem?_eq_some_iff.1 a1;obtain⟨b3,b4⟩:=List.getElem?_eq_some_iff.1 a2;rw[h5];have hp:=List.pairwise_iff_getElem.1 hn;rcases Nat.lt_trichotomy j' j with z|z|z
    ·exact absurd (b2.trans b4.symm) (hp _ _ b1 b3 z)
    ·exact z
    ·exact absurd (b4.trans b2.symm) (hp _ _ b3 b1 z)
  subst hij;simp[Builtin.delete_,run_underlying ht,Go.MapKept.run_getObj_map (show w.heap[b]?=some (.map (l.map nO).toArray g)from h),run_checkKey hk Ew,h3,Go.MapKept.run_setObj_map _ (show w.heap[b]?=some (.map (l.map nO).toArray g)from h),Result.andThen,setBlock,Eh]
end
section
variable {w : World} {ib mb most given : Nat} {its : List It}
theorem Xa (its:List It):(iD its).map Prod.fst=its.map It.id:=by unfold iD;rw[List.map_map];rfl
theorem gM.aaK (h:gM w ib mb most given its){i:It}(hi:i∈its):mb≠i.cb∧ib≠i.cb∧ib≠mb:=by
 have:=h.nf;unfold bR at this;rw[List.nodup_cons,List.nodup_cons]at this;have hm:=List.mem_map_of_mem (f:=It.cb) hi;exact⟨fun e=>this.2.1 (e▸hm),fun e=>this.1 (List.mem_cons_of_mem _ (e▸hm)),fun e=>this.1 (by rw[e];simp)⟩
theorem gM.erased {j:Nat}(h:gM w ib mb most given its)(hb:aj w2 ib 134 #[nI most,nI given,.map (some mb)])(hm:jh w2 mb given ((iD its).eraseIdx j))(hmod:Mod [mb] w w2):gM w2 ib mb most given (its.eraseIdx j):=by
 have hs:=List.eraseIdx_sublist its j;refine⟨hb,by unfold iD at hm⊢;rw[←Eh];exact hm,fun i hi=>(h.cur i (hs.subset hi)).mod hmod (fun hh=>(h.aaK (hs.subset hi)).1 (List.mem_singleton.1 hh).symm),fun i hi=>h.ids i (hs.subset hi),h.nd.sublist (hs.map _), ?_,h.few.1,by have:=hs.length_le;have:=h.few.2;omega⟩;have:=h.nf;unfold bR at this⊢;exact this.sublist (((hs.map _).cons_cons _).cons_cons _)
theorem Qo {j id cb:Nat}{c:gP}(h:gM w ib mb most given its)(hj:its[j]?=some ⟨id,cb,c⟩):Calls Tryz.prog 96 #[pQ ib,nI id] w fun y w'=>y= .returned .nilIface∧gM w' ib mb most given (its.eraseIdx j)∧Mod [mb] w w':=by
 have jP:=qd (Ph h (List.mem_of_getElem? hj))
 have hj2:(iD its)[j]?=some (id,cb):=by unfold iD;rw[List.getElem?_map,hj];rfl
 have hdel:=fun ty=>h.map.del (P:=Tryz.prog) (t:=131) Tryz.underlying131 Tryz.underlying3 hj2 (by rw[Xa];exact h.nd) ty;have hms:=h.map.ak ((iD its).eraseIdx j) given;have hmm:=h.map.BO (.map (((iD its).eraseIdx j).map nO).toArray given);obtain⟨W2,hW2⟩:∃W2,W2=setBlock w mb (.map (((iD its).eraseIdx j).map nO).toArray given):=⟨_,rfl⟩;rw[←hW2]at hms hmm;have him:ib∉[mb]:=fun hh=>(h.aaK (List.mem_of_getElem? hj)).2.2 (List.mem_singleton.1 hh);have HE:=qd (And.intro (h.erased (j:=j) (h.blk.mod hmm him) hms hmm) hmm);have c2:=h.blk.cell 2;simp only[gl]at c2 hdel;simp only[←hW2]at hdel;clear h hj hj2 hms hmm him hW2;go_in;go_wp2_with fail;refine jP.out.mono ?_;rintro y w1 ⟨rfl,rfl⟩;go_wp2;go_ret;exact⟨rfl,HE.out⟩
def It.ended (i:It):It:=⟨i.id,i.cb,⟨0,0,true⟩⟩
theorem gM.ended (h:gM w ib mb most given its)(hb:aj w2 ib 134 #[nI most,nI given,.map (some mb)])(hm:jh w2 mb given (iD its))(hc:∀i∈its,fB w2 i.cb ⟨0,0,true⟩):gM w2 ib mb most given (its.map It.ended):=by
 have e1:(its.map It.ended).map It.cb=its.map It.cb:=by rw[List.map_map];rfl
 have e2:(its.map It.ended).map It.id=its.map It.id:=by rw[List.map_map];rfl
 refine⟨hb,by unfold iD at hm⊢;rw[List.map_map];exact hm,fun i hi=> ?_,fun i hi=> ?_,by rw[e2];exact h.nd,by have:=h.nf;unfold bR at this⊢;rw[e1];exact this,h.few.1,by rw[List.length_map];exact h.few.2⟩
 ·obtain⟨i',hi',rfl⟩:=List.mem_map.1 hi;exact hc i' hi'
 ·obtain⟨i',hi',rfl⟩:=List.mem_map.1 hi;exact h.ids i' hi'
end
end
section
variable {I Kk M b gv ib j mb : Nat} {its : List It} {H : Nat → Nat} {a : Pool} {W0 w : World} {E : Nat → Addr} {G ids : List Nat} {d9 : bq}
theorem Pm:∀q∈bR ib mb (its.eraseIdx j),q∈bR ib mb its:=fun q hq=>by
 unfold bR at hq⊢;simp only[List.mem_cons]at hq⊢;rcases hq with h|h|h
 ·exact .inl h
 ·exact .inr (.inl h)
 ·exact .inr (.inr (((List.eraseIdx_sublist its j).map It.cb).subset h))
theorem ZQ {id cb:Nat}{c:gP}(h:kR W0 E H Kk M I b G w a ids its gv d9)(hj:its[j]?=some ⟨id,cb,c⟩):Calls Tryz.prog 69 #[pQ b,nI id] w fun y w'=>y= .returned .nilIface∧mW W0 E H Kk M I b G w w' a ids (its.eraseIdx j) gv d9:=by
 obtain⟨C,GC,mb,hS,rfl,qY⟩:=h;have hbk:=hS.blk.blk;unfold fZ.cells at hbk;have c16:=hbk.cell 16;simp only[gl]at c16;have HO:=qd (Qo hS.nZ hj);have HS:=qd hS;have HQ:=qd qY;clear hbk hS qY hj;go_in;go_wp2_with fail;refine HO.out.mono ?_;rintro y w1 ⟨rfl,hi,hm⟩;have hs:=HS.out.ZM hi hm (fun q hq=> .inl (by unfold bR;simp at hq⊢;exact .inr (.inl hq))) (fun q hq=> .inl (Pm q hq));have HE:=qd (show mW W0 E H Kk M I b (dW b C GC mb its) w w1 a ids (its.eraseIdx j) gv d9 from HQ.out▸hs.to);clear hs hi hm HO;go_wp2;go_ret;exact⟨rfl,HE.out⟩
end
section
variable {es es' : List av}
def BR (es:List av):Nat→Option Nat:=fun k=>(look es k).map av.val
def qA (R:Nat→Option Nat)(k:Nat)(v:Option Nat):Nat→Option Nat:=fun x=>if x=k then v else R x
theorem Lp (R:Nat→Option Nat)(k:Nat)(v:Option Nat):qA R k v k=v:=if_pos rfl
theorem Ry {R:Nat→Option Nat}{k x:Nat}{v:Option Nat}(h:x≠k):qA R k v x=R x:=if_neg h
theorem Xb (es:List av)(key k:Nat):look (rest es key) k=if k=key then none else look es k:=by
 unfold look rest;rw[List.find?_filter];split
 ·rename_i h;subst h;rw[List.find?_eq_none];intro x _;simp
 ·rename_i h;congr 1;funext x;by_cases hx:x.key=k
  ·simp[hx,h]
  ·simp[hx]
theorem ZR (hn:(es.map av.key).Nodup)(key:Nat):(rest es key).length=if(BR es key).isSome then es.length-1 else es.length:=by
 unfold BR
 cases hl:look es key with
 |none=>rw[zn hl];simp
 |some e=>
  obtain⟨h1,rfl⟩:=nK hl;have hp:=List.perm_cons_erase h1;have h2:=(zo hn hp).length_eq;rw[h2,List.length_erase_of_mem h1];simp
theorem ac6 {key:Nat}(hn:(es.map av.key).Nodup)(hn':(es'.map av.key).Nodup)(hp:es'.Perm (rest es key)):BR es'=qA (BR es) key none∧es'.length=if(BR es key).isSome then es.length-1 else es.length:=by
 constructor
 ·funext k;show(look es' k).map av.val=_;rw[DC hp hn',Xb];by_cases hk:k=key
  ·rw[if_pos hk,hk,Lp];rfl
  ·rw[if_neg hk,Ry hk];rfl
 ·rw[hp.length_eq,ZR hn]
def Rz (o:Option Nat)(n:Nat):Nat:=if o.isSome then n else n+1
def dnN (o:Option Nat)(n:Nat):Nat:=if o.isSome then n-1 else n
def dS (W0:World)(E:Nat→Addr)(K M I fb b:Nat)(G:List Nat)(w:World)(R:Nat→Option Nat)(n:Nat)(its:List It)(gv:Nat):Prop:=
 ∃(F:List Nat) (a:Pool) (ids:List Nat) (d9:bq),aj w fb 74 #[pQ b]∧kR W0 E iP K M I b F w a ids its gv d9∧G=fb::F∧fb∉F∧W0.heap.size≤fb∧BR a.ents=R∧a.ents.length=n
def lY (W0:World)(E:Nat→Addr)(K M I fb b:Nat)(G:List Nat)(w w':World)(R:Nat→Option Nat)(n:Nat)(its:List It)(gv:Nat):Prop:=
 ∃G',dS W0 E K M I fb b G' w' R n its gv∧(∀q∈G',q∈G∨w.heap.size≤q)∧Mod G w w'
section
variable {W0 : World} {E : Nat → Addr} {K M I fb b : Nat} {G F : List Nat} {w w' : World} {R R' : Nat → Option Nat} {n n' : Nat} {its qX : List It} {gv yL : Nat} {a : Pool} {ids : List Nat} {d9 : bq}
theorem dS.below (h:dS W0 E K M I fb b G w R n its gv)(hb:Below w.heap.size w w'):dS W0 E K M I fb b G w' R n its gv:=by
 obtain⟨F,a,ids,d9,h1,h2,h3⟩:=h;exact⟨F,a,ids,d9,h1.below hb h1.lt,h2.below hb,h3⟩
theorem dS.gI (h:dS W0 E K M I fb b G w R n its gv):∀q∈G,q<w.heap.size∧W0.heap.size≤q:=by
 obtain⟨F,a,ids,d9,h1,h2,rfl,h4,h5,_⟩:=h;intro q hq;rcases List.mem_cons.1 hq with rfl|hq
 ·exact⟨h1.lt,h5⟩
 ·exact h2.facts.1 q hq
theorem dS.of {a':Pool}{aK:List Nat}{gD:bq}(hB:aj w fb 74 #[pQ b])(hne:fb∉F)(h0:W0.heap.size≤fb)(hr:mW W0 E iP K M I b F w w' a' aK qX yL gD)(hR:BR a'.ents=R')(hn:a'.ents.length=n'):lY W0 E K M I fb b (fb::F) w w' R' n' qX yL:=by
 obtain⟨F',h1,h2,h3⟩:=hr;have hl:=hB.lt;refine⟨fb::F',⟨F',a',aK,gD,hB.mod h3 hne,h1,rfl,fun hf=> ?_,h0,hR,hn⟩,fun q hq=> ?_,h3.more (fun q hq=>List.mem_cons_of_mem _ hq)⟩
 ·rcases h2 fb hf with k|k
  ·exact hne k
  ·omega
 ·rcases List.mem_cons.1 hq with k|k
  ·exact .inl (by rw[k];simp)
  ·rcases h2 q k with z|z
   ·exact .inl (List.mem_cons_of_mem _ z)
   ·exact .inr z
theorem dS.adN (h:dS W0 E K M I fb b G w R n its gv):W0.heap.size≤w.heap.size:=by
 obtain⟨F,a,ids,d9,h1,_,_,_,h5,_⟩:=h;have:=h1.lt;omega
theorem dS.mod {S:List Nat}(h:dS W0 E K M I fb b G w R n its gv)(hm:Mod S w w')(hS:∀q∈S,q∉G∧W0.heap.size≤q):dS W0 E K M I fb b G w' R n its gv:=by
 obtain⟨F,a,ids,d9,h1,h2,rfl,h3⟩:=h;exact⟨F,a,ids,d9,h1.mod hm (fun hq=>(hS fb hq).1 (by simp)),h2.mod hm (fun q hq=>⟨fun hf=>(hS q hq).1 (List.mem_cons_of_mem _ hf),(hS q hq).2⟩),rfl,h3⟩
theorem lY.Ey (h:lY W0 E K M I fb b G w.drew w' R n its gv):lY W0 E K M I fb b G w w' R n its gv:=by
 obtain⟨G',h1,h2,h3⟩:=h;exact⟨G',h1,h2,(Mod.of_below (Below.refl w.heap.size w).drew G).then h3⟩
end
end
section
variable {es es' : List av} {key : Nat}
def zq (es:List av):Nat→Option Nat:=fun k=>(look es k).map av.val
theorem Ub (es:List av)(key k:Nat):look (rest es key) k=if k=key then none else look es k:=by
 unfold look rest;rw[List.find?_filter];split
 ·rename_i h;subst h;rw[List.find?_eq_none];intro x _;simp
 ·rename_i h;congr 1;funext x;by_cases hx:x.key=k
  ·simp[hx,h]
  ·simp[hx]
theorem Uc (l:List av)(e:av)(k:Nat):look (l++[e]) k=(look l k).or (if e.key=k then some e else none):=by
 unfold look;rw[List.find?_append];congr 1;by_cases h:e.key=k
 ·simp[h]
 ·simp[h]
theorem Xc (hn:(es.map av.key).Nodup)(key:Nat):(rest es key).length=if(zq es key).isSome then es.length-1 else es.length:=by
 unfold zq
 cases hl:look es key with
 |none=>rw[zn hl];simp
 |some e=>
  obtain⟨h1,rfl⟩:=nK hl;have hp:=List.perm_cons_erase h1;have h2:=(zo hn hp).length_eq;rw[h2,List.length_erase_of_mem h1];simp
def noRoom (M:Nat)(o:Option Nat)(n:Nat):Bool:=o.isNone && decide (M≤n)
def qC (M:Nat)(R:Nat→Option Nat)(n k v:Nat):Nat→Option Nat:=if noRoom M (R k) n then R else fun x=>if x=k then some v else R x
def qZ (M:Nat)(o:Option Nat)(n:Nat):Nat:=if o.isSome||decide (M≤n)then n else n+1
def agm (R:Nat→Option Nat)(k:Nat):Nat→Option Nat:=fun x=>if x=k then none else R x
def agn (o:Option Nat)(n:Nat):Nat:=if o.isSome then n-1 else n
theorem aaL {M:Nat}:tK M es key=noRoom M (zq es key) es.length:=by
 unfold tK noRoom zq
 cases look es key<;>rfl
theorem abE {M:Nat}{e:av}(hn:(es.map av.key).Nodup)(hn':(es'.map av.key).Nodup)(hp:es'.Perm (JU M es e)):zq es'=qC M (zq es) es.length e.key e.val∧es'.length=qZ M (zq es e.key) es.length:=by
 unfold JU at hp;unfold qC;rw[aaL]at hp;by_cases hf:noRoom M (zq es e.key) es.length=true
 ·rw[if_pos hf]at hp⊢;refine⟨funext fun k=> ?_, ?_⟩
  ·show(look es' k).map av.val=_;rw[DC hp hn'];rfl
  ·rw[hp.length_eq];unfold noRoom at hf;unfold qZ;rw[Bool.and_eq_true]at hf;rw[hf.2,Bool.or_true,if_pos rfl]
 ·rw[if_neg hf]at hp⊢;refine⟨funext fun k=> ?_, ?_⟩
  ·show(look es' k).map av.val=_;rw[DC hp hn',Uc,Ub];by_cases hk:k=e.key
   ·rw[if_pos hk,if_pos hk.symm,if_pos hk];rfl
   ·rw[if_neg hk,if_neg (fun h=>hk h.symm),if_neg hk,Option.or_none];rfl
  ·rw[hp.length_eq,List.length_append,Xc hn];unfold noRoom at hf;unfold qZ
   cases hl:zq es e.key with
   |none=>
    rw[hl]at hf;simp only[Option.isNone_none,Bool.true_and]at hf;simp[hf]
   |some v=>
    have:0<es.length:=by
     cases es with
     |nil=>simp[zq,look]at hl
     |cons=>simp
    simp;omega
def tO (W0:World)(E:Nat→Addr)(H:Nat→Nat)(K M I b:Nat)(G:List Nat)(w:World)(R:Nat→Option Nat)(n:Nat)(its:List It)(gv:Nat):Prop:=
 ∃(a:Pool) (ids:List Nat) (d9:bq),kR W0 E H K M I b G w a ids its gv d9∧zq a.ents=R∧a.ents.length=n
def ac7 (W0:World)(E:Nat→Addr)(H:Nat→Nat)(K M I b:Nat)(G:List Nat)(w w':World)(R:Nat→Option Nat)(n:Nat)(its:List It)(gv:Nat):Prop:=
 ∃G',tO W0 E H K M I b G' w' R n its gv∧(∀q∈G',q∈G∨w.heap.size≤q)∧Mod G w w'
section
variable {W0 : World} {E : Nat → Addr} {H : Nat → Nat} {K M I b : Nat} {G : List Nat} {w w' : World} {R : Nat → Option Nat} {n : Nat} {its : List It} {gv : Nat}
theorem tO.below (h:tO W0 E H K M I b G w R n its gv)(hb:Below w.heap.size w w'):tO W0 E H K M I b G w' R n its gv:=by
 obtain⟨a,ids,d9,h1,h2⟩:=h;exact⟨a,ids,d9,h1.below hb,h2⟩
theorem tO.gI (h:tO W0 E H K M I b G w R n its gv):∀q∈G,q<w.heap.size∧W0.heap.size≤q:=by
 obtain⟨a,ids,d9,h1,_⟩:=h;exact h1.facts.1
theorem tO.mod {S:List Nat}(h:tO W0 E H K M I b G w R n its gv)(hm:Mod S w w')(hS:∀q∈S,q∉G∧W0.heap.size≤q):tO W0 E H K M I b G w' R n its gv:=by
 obtain⟨a,ids,d9,h1,h2⟩:=h;exact⟨a,ids,d9,h1.mod hm hS,h2⟩
theorem tO.env (h:tO W0 E H K M I b G w R n its gv):Env W0 E w:=by
 obtain⟨a,ids,d9,h1,_⟩:=h;exact h1.facts.2.2.2.2.2.2.2.2.2
theorem tO.least (h:tO W0 E H K M I b G w R n its gv):n≤M∧M≤192:=by
 obtain⟨a,ids,d9,h1,_,h3⟩:=h;exact⟨h3▸h1.facts.2.2.1,h1.facts.2.2.2.1⟩
theorem ac7.of {a:Pool}{ids:List Nat}{d9:bq}(h:mW W0 E H K M I b G w w' a ids its gv d9)(hR:zq a.ents=R)(hn:a.ents.length=n):ac7 W0 E H K M I b G w w' R n its gv:=by
 obtain⟨F,h1,h2,h3⟩:=h;exact⟨F,⟨a,ids,d9,h1,hR,hn⟩,h2,h3⟩
end
end
end Go.Proofs.YtnfjjbpmhcbelaaGreatDoor
