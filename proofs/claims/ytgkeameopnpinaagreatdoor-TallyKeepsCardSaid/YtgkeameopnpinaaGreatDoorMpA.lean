/- A map's writes by their contracts. No statement of the claim. -/
import Derived.Test.YtgkeameopnpinaaGreatDoorRmD
import Derived.Test.YtgkeameopnpinaaGreatDoorSqM
import Derived.Test.YtgkeameopnpinaaGreatDoorCoO
import Derived.Test.YtgkeameopnpinaaGreatDoorLaneP
import Derived.Maps.RangeWalk
import Derived.Test.YtgkeameopnpinaaGreatDoorCoDA
namespace Go.Proofs.YtgkeameopnpinaaGreatDoor
set_option maxRecDepth 100000
set_option maxHeartbeats 4000000
open Go.RowKit bY Go.MapKept
open Go.ChangeMaps (setBlock heap_setBlock_same heap_setBlock_other)
section
section
variable {W0 : World} {E : Nat → Addr} {H : Nat → Nat} {Kk M I b : Nat} {G0 : List Nat} {w0 w w' : World} {C : fQ} {GC : List Nat} {mb gv : Nat} {a : Pool} {ids : List Nat} {its : List It}
theorem fT.wrote (h:fT W0 E H Kk M I b G0 w0 C GC mb gv w a ids its)(hw:Wrote w b C w'):∃C',fT W0 E H Kk M I b G0 w0 C' GC mb gv w' a ids its∧Mod [b] w w'∧C'.cb=C.cb∧C'.ib=C.ib∧C'.lf≤C.lf:=by
 obtain⟨lf,gn,ma,ml,last,all,h1,h2,h3⟩:=hw;exact⟨_,h.Nb h2 h3 ⟨rfl,rfl,rfl,rfl,rfl⟩,h3,rfl,rfl,h1⟩
end
theorem abp {W0:World}{E:Nat→Addr}{H:Nat→Nat}{Kk M I b:Nat}{G:List Nat}{w:World}{a:Pool}{ids:List Nat}{its:List It}{gv:Nat}{eP:aZ}(h:lV W0 E H Kk M I b G w a ids its gv eP)(e:av)(he:jW H e):Calls Tryz.prog 30 #[pQ b,nU e.key,nU e.val,nU e.hash] w fun y w'=>y= .returned (iQ E (sM M a.ents e.key))∧∃a' aJ gH,oN W0 E H Kk M I b G w w' a' aJ its gv gH∧Cn H Kk M a ids e a' aJ:=by
 obtain⟨C,GC,mb,hS,rfl,sN⟩:=h;obtain⟨W,hW,hB,hBm,Uy,hBv,vI,Cq⟩:=qX5 w 48 #[pQ b] 23 #[nU e.key] 23 #[nU e.val] 23 #[nU e.hash] 28 #[.nilIface];have hlt:=fun q hq=>(hS.fA q hq).1;have eH:=qd (show∀q,w.heap.size≤q→q∉dQ b C GC mb its from fun q hq hg=>by have:=hlt q hg;omega);have HS:=qd (hS.below hB);have hsz:=hB.size;have DN:=qd hBm;have Uz:=qd Uy;have HBv:=qd hBv;have UA:=qd vI;have uL:=qd Cq;have Yv:=Cq.lt;have HW:=qd hW;have HE:=qd he;clear hW hB hS hlt hBm Uy hBv vI Cq;have nS:∀(fn:Fn) (first cap:Array Value) (w:World),(Instr.makeFunc fn first cap).run Tryz.prog w= .ok (.func fn first cap) w:=fun _ _ _ _=>rfl;have oh:=(Below.refl W.heap.size W).alloc (Nat.le_refl _) (.cells #[.nilIface] 28)
 have rY:=qd (zT (S:=(w.heap.size+1+1+1+1)::GC) (K:=fun w1=>Hy W0 E H Kk M I b (dQ b C GC mb its) w C GC mb gv its (Cn H Kk M a ids e) (w.heap.size+1+1+1+1) 28 (iQ E (sM M a.ents e.key)) (W.alloc (.cells #[.nilIface] 28)) w1) 58 #[pQ w.heap.size,.pointer (some ⟨(w.heap.size+1),0,none⟩),.pointer (some ⟨(w.heap.size+1+1),0,none⟩),.pointer (some ⟨(w.heap.size+1+1+1),0,none⟩),.pointer (some ⟨(w.heap.size+1+1+1+1),0,none⟩)] W (fun V=>enters_of Tryz.func58 (by kernel_rfl) rfl _ V)
  (fun hg=>by
   rcases List.mem_cons.1 hg with k|k
   ·omega
   ·exact eH.out _ (by omega) (aH.2 (.inr (.inr k))))
  ((ZQ (HS.out.below oh) (DN.out.mod (Mod.of_below oh []) (by simp)) (Uz.out.mod (Mod.of_below oh []) (by simp)) (HBv.out.mod (Mod.of_below oh []) (by simp)) (UA.out.mod (Mod.of_below oh []) (by simp)) (uL.out.mod (Mod.of_below oh []) (by simp)) ⟨eH.out _ (by omega),by omega⟩ HE.out).mono (fun y w1 hh=>⟨hh.1,(by obtain⟨_,_,_,_,_,_,_,q⟩:=hh.2;exact q),hh.2⟩)))
 have Nc:=qd oh;clear oh;go_in;go_upto_region 2 with fail;rw[←HW.out];go_wp2_with fail;refine rY.out.mono ?_;rintro y w1 ⟨rfl,hm1,fF,a',aJ,hS1,hpm,hr1,hsu,hm2⟩;have HS:=qd hS1;have wI:=qd hpm;have HR:=qd hr1
 have hx1:=(DN.out.mod (Mod.of_below Nc.out []) (by simp)).mod hm1 (fun hg=>by
  rcases List.mem_cons.1 hg with k|k
  ·omega
  ·exact eH.out _ (Nat.le_refl _) (aH.2 (.inr (.inr k))))
 have HX:=qd hx1;have Gf:=qd (show(w.heap.size+1+1+1+1)∉[b]from fun hg=>eH.out _ (by omega) (aH.2 (.inl (List.mem_singleton.1 hg))));clear hm1 hS1 hpm hr1 hsu hm2 hx1 rY DN Uz HBv UA uL Nc
 cases hfu:rF M a.ents e.key with
 |false=>
  have hpc:sM M a.ents e.key=0:=by unfold sM;rw[hfu];rfl
  rw[hpc]at HR;have Us:=qd hpc;clear hpc;rw[R5]at HR;have r0:=HR.out.cell 0;simp only[List.getElem?_toArray,List.getElem?_cons_zero]at r0;go_upto_region 8 with fail;clear r0;obtain⟨cc,hcc⟩:=HS.out.core.c_;have hbk:=HS.out.blk.blk;unfold fQ.cells at hbk;have c3:=hbk.cell 3;simp only[gl]at c3;have x0:=HX.out.cell 0;simp only[List.getElem?_toArray,List.getElem?_cons_zero]at x0;have fD:=qd (zi (hcc.below (Below.refl w1.heap.size w1).drew));unfold mI at fD;clear hbk hcc;refine rT (fun(w':World)=>w'.cell? ⟨w.heap.size,0,none⟩=some (pQ b)∧w'.cell? ⟨b,3,none⟩=some (pQ C.cb)) [7] ?_;have hHeld:=(⟨x0,c3⟩:_∧_);refine vT 0 rfl ?_;refine nT 1 rfl fun K hK=> ?_;go_simp;refine kO hK ?_;clear hK K;refine vW 2 rfl ?_;refine vW 3 rfl ?_;refine nT 4 rfl fun K hK=> ?_;go_simp;refine kO hK ?_;clear hK K;refine nT 5 rfl fun K hK=> ?_;go_simp;refine(rG _ _).mono ?_;rintro y V1 ⟨rfl,rfl⟩;go_wp2_with fail;have hHeld:=(⟨x0,c3⟩:_∧_);refine kO hK ?_;clear hK K;refine nT 6 rfl fun K hK=> ?_;go_simp;refine(fD.out).mono ?_;rintro y V2 ⟨rfl,hb⟩;replace hb:Below w1.heap.size w1 V2:=bR hb (Below.refl _ _).drew;replace HS:=qd (HS.out.below hb);replace x0:=aD hb x0;replace c3:=aD hb c3;clear hb fD;go_wp2_with fail;have hHeld:=(⟨x0,c3⟩:_∧_);refine kO hK ?_;clear hK K;refine nT 7 rfl fun K hK=> ?_;go_simp;have kR:=qd (show Calls Tryz.prog 57 #[pQ b,.agg #[.int .i64 cc.p,.int .i64 cc.v,.int .i64 cc.u]] V2 _ from M4 HS.out.blk HS.out.kk cc);refine(kR.out).mono ?_;rintro y V3 ⟨rfl,hwr⟩
  obtain⟨C3,UC,q3,Xv,Xw,Xx⟩:=HS.out.wrote hwr;have j5:=qd UC;clear UC hwr q3 Xv Xw Xx kR HS x0 c3;go_wp2_with fail;refine kO hK ?_;clear hK K;refine aQ (by kernel_rfl) ?_ _;go_wp2;go_ret;exact⟨by rw[Us.out];rfl,a',aJ,_,j5.out.to,wI.out⟩
 |true=>
  have hpc:sM M a.ents e.key=2:=by unfold sM;rw[hfu];rfl
  rw[hpc]at HR;have Us:=qd hpc;clear hpc;rw[mJ E (by omega:1≤2)]at HR;have r0:=HR.out.cell 0;simp only[List.getElem?_toArray,List.getElem?_cons_zero]at r0;go_upto_region 6 with fail;clear r0;obtain⟨cc,hcc⟩:=HS.out.core.c_;have hbk:=HS.out.blk.blk;unfold fQ.cells at hbk;have c3:=hbk.cell 3;simp only[gl]at c3;have x0:=HX.out.cell 0;simp only[List.getElem?_toArray,List.getElem?_cons_zero]at x0;have fD:=qd (zi (hcc.below (Below.refl w1.heap.size w1).drew));unfold mI at fD;clear hbk hcc;refine rT (fun(w':World)=>w'.cell? ⟨w.heap.size,0,none⟩=some (pQ b)∧w'.cell? ⟨b,3,none⟩=some (pQ C.cb)) [7] ?_;have hHeld:=(⟨x0,c3⟩:_∧_);refine vT 0 rfl ?_;refine nT 1 rfl fun K hK=> ?_;go_simp;refine kO hK ?_;clear hK K;refine vW 2 rfl ?_;refine vW 3 rfl ?_;refine nT 4 rfl fun K hK=> ?_;go_simp;refine kO hK ?_;clear hK K;refine nT 5 rfl fun K hK=> ?_;go_simp;refine(rG _ _).mono ?_;rintro y V1 ⟨rfl,rfl⟩;go_wp2_with fail;have hHeld:=(⟨x0,c3⟩:_∧_);refine kO hK ?_;clear hK K;refine nT 6 rfl fun K hK=> ?_;go_simp;refine(fD.out).mono ?_;rintro y V2 ⟨rfl,hb⟩;replace hb:Below w1.heap.size w1 V2:=bR hb (Below.refl _ _).drew;replace HS:=qd (HS.out.below hb);replace HR:=qB hb HR;replace x0:=aD hb x0;replace c3:=aD hb c3;clear hb fD;go_wp2_with fail;have hHeld:=(⟨x0,c3⟩:_∧_);refine kO hK ?_;clear hK K;refine nT 7 rfl fun K hK=> ?_;go_simp;have kR:=qd (show Calls Tryz.prog 46 #[pQ b,.agg #[.int .i64 cc.p,.int .i64 cc.v,.int .i64 cc.u]] V2 _ from wL HS.out.blk cc)
  refine(kR.out).mono ?_;rintro y V3 ⟨rfl,hwr,q3⟩;have j5:=qd (HS.out.Nb hwr q3 ⟨rfl,rfl,rfl,rfl,rfl⟩);replace HR:=qd (HR.out.mod q3 Gf.out);clear hwr q3 kR HS x0 c3;go_wp2_with fail;refine kO hK ?_;clear hK K;refine aQ (by kernel_rfl) ?_ _;have r0:=HR.out.cell 0;simp only[List.getElem?_toArray,List.getElem?_cons_zero]at r0;go_wp2;go_ret;exact⟨by rw[Us.out,mJ E (by omega:1≤2)];rfl,a',aJ,_,j5.out.to,wI.out⟩
theorem UD {W0:World}{E:Nat→Addr}{H:Nat→Nat}{Kk M I b:Nat}{G:List Nat}{w:World}{a:Pool}{ids:List Nat}{its:List It}{gv:Nat}{eP:aZ}(h:lV W0 E H Kk M I b G w a ids its gv eP)(e:av)(he:jW H e):Calls Tryz.prog 29 #[pQ b,nU e.key,nU e.hash] w fun y w'=>y= .returned (.bool (look a.ents e.key).isSome)∧∃a' aJ gH,oN W0 E H Kk M I b G w w' a' aJ its gv gH∧a'.ents.Perm (rest a.ents e.key):=by
 obtain⟨iv,hiv⟩:∃i,i=(look a.ents e.key).isSome:=⟨_,rfl⟩;rw[←hiv];have HIv:=qd hiv;clear hiv;obtain⟨C,GC,mb,hS,rfl,sN⟩:=h;obtain⟨W,hW,hB,hBm,Uy,vI,Cq⟩:=qX4 w 48 #[pQ b] 23 #[nU e.key] 23 #[nU e.hash] 4 #[.bool false];have hlt:=fun q hq=>(hS.fA q hq).1;have eH:=qd (show∀q,w.heap.size≤q→q∉dQ b C GC mb its from fun q hq hg=>by have:=hlt q hg;omega);have HS:=qd (hS.below hB);have hsz:=hB.size;have DN:=qd hBm;have Uz:=qd Uy;have UA:=qd vI;have uL:=qd Cq;have Yv:=Cq.lt;have HW:=qd hW;have HE:=qd he;clear hW hB hS hlt hBm Uy vI Cq;have nS:∀(fn:Fn) (first cap:Array Value) (w:World),(Instr.makeFunc fn first cap).run Tryz.prog w= .ok (.func fn first cap) w:=fun _ _ _ _=>rfl;have oh:=(Below.refl W.heap.size W).alloc (Nat.le_refl _) (.cells #[.nilIface] 28)
 have rY:=qd (zT (S:=(w.heap.size+1+1+1)::GC) (K:=fun w1=>Hy W0 E H Kk M I b (dQ b C GC mb its) w C GC mb gv its (fun a' _=>a'.ents.Perm (rest a.ents e.key)) (w.heap.size+1+1+1) 4 (.bool (look a.ents e.key).isSome) (W.alloc (.cells #[.nilIface] 28)) w1) 55 #[pQ w.heap.size,.pointer (some ⟨(w.heap.size+1),0,none⟩),.pointer (some ⟨(w.heap.size+1+1),0,none⟩),.pointer (some ⟨(w.heap.size+1+1+1),0,none⟩)] W (fun V=>enters_of Tryz.func55 (by kernel_rfl) rfl _ V)
  (fun hg=>by
   rcases List.mem_cons.1 hg with k|k
   ·omega
   ·exact eH.out _ (by omega) (aH.2 (.inr (.inr k))))
  ((ZR (HS.out.below oh) (DN.out.mod (Mod.of_below oh []) (by simp)) (Uz.out.mod (Mod.of_below oh []) (by simp)) (UA.out.mod (Mod.of_below oh []) (by simp)) (uL.out.mod (Mod.of_below oh []) (by simp)) ⟨eH.out _ (by omega),by omega⟩ HE.out).mono (fun y w1 hh=>⟨hh.1,(by obtain⟨_,_,_,_,_,_,_,q⟩:=hh.2;exact q),hh.2⟩)))
 have Nc:=qd oh;clear oh;go_in;go_upto_region 2 with fail;rw[←HW.out];go_wp2_with fail;refine rY.out.mono ?_;rintro y w1 ⟨rfl,hm1,fF,a',aJ,hS1,hpm,hr1,hsu,hm2⟩;have HS:=qd hS1;have wI:=qd hpm;have HR:=qd hr1
 have hx1:=(DN.out.mod (Mod.of_below Nc.out []) (by simp)).mod hm1 (fun hg=>by
  rcases List.mem_cons.1 hg with k|k
  ·omega
  ·exact eH.out _ (Nat.le_refl _) (aH.2 (.inr (.inr k))))
 have HX:=qd hx1;have Gf:=qd (show(w.heap.size+1+1+1)∉[b]from fun hg=>eH.out _ (by omega) (aH.2 (.inl (List.mem_singleton.1 hg))));clear hm1 hS1 hpm hr1 hsu hm2 hx1 rY DN Uz UA uL Nc;rw[←HIv.out]at HR;go_upto_region 3 with fail;obtain⟨cc,hcc⟩:=HS.out.core.c_;have hbk:=HS.out.blk.blk;unfold fQ.cells at hbk;have c3:=hbk.cell 3;simp only[gl]at c3;have x0:=HX.out.cell 0;simp only[List.getElem?_toArray,List.getElem?_cons_zero]at x0;have fD:=qd (zi (hcc.below (Below.refl w1.heap.size w1).drew));unfold mI at fD;clear hbk hcc;refine rT (fun(w':World)=>w'.cell? ⟨w.heap.size,0,none⟩=some (pQ b)∧w'.cell? ⟨b,3,none⟩=some (pQ C.cb)) [7] ?_;have hHeld:=(⟨x0,c3⟩:_∧_);refine vT 0 rfl ?_;refine nT 1 rfl fun K hK=> ?_;go_simp;refine kO hK ?_;clear hK K;refine vW 2 rfl ?_;refine vW 3 rfl ?_;refine nT 4 rfl fun K hK=> ?_;go_simp;refine kO hK ?_;clear hK K;refine nT 5 rfl fun K hK=> ?_;go_simp;refine(rG _ _).mono ?_;rintro y V1 ⟨rfl,rfl⟩;go_wp2_with fail;have hHeld:=(⟨x0,c3⟩:_∧_);refine kO hK ?_;clear hK K;refine nT 6 rfl fun K hK=> ?_;go_simp;refine(fD.out).mono ?_;rintro y V2 ⟨rfl,hb⟩;replace hb:Below w1.heap.size w1 V2:=bR hb (Below.refl _ _).drew;replace HS:=qd (HS.out.below hb);replace HR:=qB hb HR;replace x0:=aD hb x0;replace c3:=aD hb c3;clear hb fD;go_wp2_with fail;have hHeld:=(⟨x0,c3⟩:_∧_);refine kO hK ?_;clear hK K;refine nT 7 rfl fun K hK=> ?_;go_simp
 have kR:=qd (show Calls Tryz.prog 57 #[pQ b,.agg #[.int .i64 cc.p,.int .i64 cc.v,.int .i64 cc.u]] V2 _ from M4 HS.out.blk HS.out.kk cc);refine(kR.out).mono ?_;rintro y V3 ⟨rfl,hwr⟩;obtain⟨C3,UC,q3,Xv,Xw,Xx⟩:=HS.out.wrote hwr;have j5:=qd UC;replace HR:=qd (HR.out.mod q3 Gf.out);clear UC hwr q3 Xv Xw Xx kR HS x0 c3;go_wp2_with fail;refine kO hK ?_;clear hK K;refine aQ (by kernel_rfl) ?_ _;have r0:=HR.out.cell 0;simp only[List.getElem?_toArray,List.getElem?_cons_zero]at r0;go_wp2;go_ret;exact⟨rfl,a',aJ,_,j5.out.to,wI.out⟩
end
section
variable {W0 w : World} {E : Nat → Addr}
theorem abq (H:Nat→Nat)(hE:Env W0 E w)(k m i:Int)(hcf:xE k m i=true)(K M I:Nat)(hkm:(1≤K∧K≤64)∧(1≤M∧M≤192)∧k=(K:Int)∧m=(M:Int)∧i=(I:Int))(Al:1≤I∧I≤8):Calls Tryz.prog 13 #[jS k m i] w fun y w'=>∃b G,y= .returned (.tuple #[pQ b,.nilIface])∧lV W0 E H K M I b G w' mQ [] [] 0 ⟨0,0,0⟩∧(∀q∈G,w.heap.size≤q)∧Below w.heap.size w w':=by
 obtain⟨hK,hM,rfl,rfl,rfl⟩:=hkm;have HI:=qd (And.intro hK (And.intro hM Al));have hB0:=aj.new w 32 #[nI K,nI M,nI I];have hb0:=(Below.refl w.heap.size w).alloc (Nat.le_refl _) (.cells #[nI K,nI M,nI I] 32);obtain⟨W,hW⟩:∃W,W=w.alloc (.cells #[nI K,nI M,nI I] 32):=⟨_,rfl⟩;rw[←hW]at hB0 hb0;have hnb:=Xq H (hE.next hb0) (K:Int) (M:Int) (I:Int) hcf K M I ⟨hK,hM,rfl,rfl,rfl⟩;have c:=hB0.c3;unfold jS at hnb⊢;have mD:=qd hnb;have HX:=qd hB0;have HB:=qd hb0;have HW:=qd hW;have HE:=qd hE;clear hnb hB0 hb0 hW hK hM Al hE;go_in;go_upto_region 1 with fail;rw[←HW.out];go_wp2_with fail;refine mD.out.mono ?_;rintro y w1 ⟨cb,rfl,hnew⟩;obtain⟨GC,hC,hsu,hmo⟩:=abj hnew;have hb1:=hmo.zw;have HC:=qd hC;have Co:=qd (show∀q∈GC,W.heap.size≤q from fun q hq=>(hsu q hq).elim (fun k=>by cases k) (fun k=>k));have HGl:=qd (show∀q∈GC,q<w1.heap.size from fun q hq=>(hC.facts.2.2.2.2.2.2.2.2.2.2.1 q hq).1);replace HX:=qB hb1 HX;have HB1:=qd (bR hb1 HB.out);have HL0:=qd hb1.size;have HZ:=qd (show w.heap.size<W.heap.size from by rw[HW.out];simp);clear hnew hC hsu hmo hb1 mD c;have c:=HX.out.c3;have HIt:=qd (Uw I HI.out.2.2 w1);unfold aY;go_wp2_with fail;refine HIt.out.mono ?_;rintro y w2 ⟨rfl,hit,hb2⟩;replace HC:=qd (HC.out.below hb2);replace HX:=qB hb2 HX;have HB2:=qd (bR hb2 HB1.out);have HIa:=qd hit;have HL1:=qd (show W.heap.size≤w1.heap.size∧w1.heap.size+1<w2.heap.size from⟨HL0.out,hit.blk.lt⟩);clear hit hb2 HIt c;have c:=HX.out.c3
 obtain⟨ib,hib⟩:∃ib,ib=w1.heap.size+1:=⟨_,rfl⟩;obtain⟨mb,hmb⟩:∃mb,mb=w1.heap.size:=⟨_,rfl⟩;rw[←hib]at HIa HL1⊢;rw[←hmb]at HIa;have HQ:=qd (show mb=w1.heap.size∧ib=w1.heap.size+1 from⟨hmb,hib⟩);clear hib hmb;obtain⟨C,zY⟩:∃C:fQ,C=⟨(K:Int),(M:Int),(I:Int),cb,0,0,⟨0,0,0⟩,⟨0,0,0⟩,ib,⟨0,0,0⟩,⟨0,0,0⟩⟩:=⟨_,rfl⟩;have hbb:=(Below.refl w2.heap.size w2).alloc (Nat.le_refl _) (.cells C.cells 85);have hnb:=aj.new w2 85 C.cells
 have hS:fT W0 E H K M I w2.heap.size [] w C GC mb 0 (w2.alloc (.cells C.cells 85)) mQ [] []:=by
  have h1:=HL1.out.1;have h2:=HL1.out.2;obtain⟨g1,g2⟩:=HQ.out;have hg:=HGl.out;have hs:=Co.out;have hz:=HZ.out;have hw0:=HE.out.size
  have e1:C.cb=cb:=by rw[zY]
  have e2:C.ib=ib:=by rw[zY]
  have hf:∀q,q∈bN ib mb []→q=ib∨q=mb:=fun q hq=>by unfold bN at hq;simpa using hq
  refine⟨⟨hnb,by rw[zY];exact Nat.zero_le _,by rw[zY];exact Nat.zero_le _⟩,by rw[zY];exact⟨rfl,rfl,rfl⟩,by rw[e1];exact HC.out.below hbb,by rw[e2];exact HIa.out.below hbb,⟨by omega,fun q hq=> ?_⟩,⟨fun hh=>by have:=hg _ hh;omega,fun hh=> ?_,fun q hq hh=> ?_⟩,fun q hq=> .inr ?_,(Mod.of_below (bR hbb HB2.out) []),hw0⟩
  ·rw[e2]at hq;rcases hf q hq with k|k<;>omega
  ·rw[e2]at hh;rcases hf _ hh with k|k<;>omega
  ·rw[e2]at hq;have:=hg q hh;rcases hf q hq with k|k<;>omega
  ·rcases aH.1 hq with k|k|k
   ·omega
   ·rw[e2]at k;rcases hf q k with k|k<;>omega
   ·have:=hs q k;omega
 have hto:=hS.to;have hbz:=bR hbb HB2.out;rw[zY]at hto hbz;unfold fQ.cells at hto hbz;have HF:=qd (And.intro hto hbz);clear hS hto hbz hbb hnb zY;go_wp2;refine bodyPost_ret (v:= .tuple #[pQ w2.heap.size,.nilIface]) (by simp[results,Tryz.results13,go_sem]) rfl ?_;obtain⟨G',k1,k2,k3⟩:=HF.out.1;exact⟨w2.heap.size,G',rfl,k1,fun q hq=>(k2 q hq).elim (fun z=>by cases z) (fun z=>z),HF.out.2⟩
theorem abr {H:Nat→Nat}{Kk M I b:Nat}{G:List Nat}{a:Pool}{ids:List Nat}{its:List It}{gv:Nat}{eP:aZ}(h:lV W0 E H Kk M I b G w a ids its gv eP)(key:Nat)(h64:H key<18446744073709551616):Calls Tryz.prog 24 #[pQ b,nU key,.int .u64 (H key:Int)] w fun y w'=>y= .returned (EC a.ents key)∧∃gH,oN W0 E H Kk M I b G w w' a ids its gv gH:=by
 obtain⟨C,GC,mb,hS,rfl,sN⟩:=h;have hbk:=hS.blk.blk;unfold fQ.cells at hbk;have c3:=hbk.cell 3;simp only[gl]at c3;have hget:=abl hS.core key h64;unfold aY EC at hget;obtain⟨gu,hgu⟩:∃g:Int,g=(((look a.ents key).getD ⟨0,0,0⟩).val:Int):=⟨_,rfl⟩;obtain⟨gi,hgi⟩:∃i,i=(look a.ents key).isSome:=⟨_,rfl⟩;unfold EC;rw[←hgu,←hgi]at hget⊢;have OP:=qd hget;have HS:=qd hS;clear hgu hgi hget hbk hS sN;go_in;go_wp2_with fail;refine OP.out.mono ?_;rintro y w1 ⟨rfl,hto⟩;obtain⟨fF,hs1,hsu,hmo⟩:=HS.out.Xt hto;replace HS:=qd hs1;clear hto hs1 hsu hmo OP c3;obtain⟨cc,hcc⟩:=HS.out.core.c_;have fD:=qd (zi hcc);unfold mI at fD;have hbk:=HS.out.blk.blk;unfold fQ.cells at hbk;have c3:=hbk.cell 3;simp only[gl]at c3;clear hbk hcc;go_wp2_with fail;refine(rG _ _).mono ?_;rintro y w2 ⟨rfl,rfl⟩;go_wp2_with fail;refine fD.out.mono ?_;rintro y w2 ⟨rfl,hb⟩;replace HS:=qd (HS.out.below hb);clear hb fD c3;have JF:=qd (show Calls Tryz.prog 46 #[pQ b,.agg #[.int .i64 cc.p,.int .i64 cc.v,.int .i64 cc.u]] w2 _ from wL HS.out.blk cc);go_wp2_with fail;refine JF.out.mono ?_;rintro y w3 ⟨rfl,hB3,gB⟩;have HE:=qd (HS.out.Nb hB3 gB ⟨rfl,rfl,rfl,rfl,rfl⟩).to;clear hB3 gB HS JF;go_wp2;refine bodyPost_ret (v:= .tuple #[.int .u64 gu,.bool gi]) (by simp[results,Tryz.results24,go_sem]) rfl ⟨rfl,_,HE.out⟩
end
section
variable {ops : Array Oper} {rest : List Oper} {o : Oper} {a : Act} {Q : Exit → Act → World → Prop} {r : Nat} {seen : Array Nat} {E : Nat → Addr} {w2 : World}
theorem Cr {α β:Type}(f:α→β):∀(l:List α) (j:Nat),(l.map f).eraseIdx j=(l.eraseIdx j).map f
 | [],_=>by simp
 |x::l,0=>rfl
 |x::l,j+1=>by simp[Cr f l j]
section
variable {P : Program} {w w' : World} {b g : Nat} {l : List (Nat × Nat)} {t k e : TypeId}
theorem iT.del (h:iT w b g l)(ht:P.underlying t=some (.map k e))(hk:P.underlying k=some (.int .i64)){j:Nat}{p:Nat×Nat}(hj:l[j]?=some p)(hn:(l.map Prod.fst).Nodup)(ty:TypeId):
  (Builtin.delete_ #[t,k] ty #[.map (some b),nI p.1]).run P w= .ok (.tuple #[]) (setBlock w b (.map ((l.eraseIdx j).map mU).toArray g)):=by
 obtain⟨a,h1,h2,h4⟩:=zU (p.1:Int) l 0;have h3:=run_findKey (P:=P) (w:=w) hk h1
 cases a with
 |none=>
  have:mV l (p.1:Int)=none:=by cases hf:mV l (p.1:Int)with|none=>rfl|some q=>rw[hf]at h2;cases h2
  exact absurd rfl (zV.1 this p (List.mem_of_getElem? hj))
 |some q=>
  obtain⟨i,v⟩:=q;obtain⟨j',h5,h6⟩:=h4 _ rfl
  have hij:i=j:=by
   simp only[Nat.zero_add]at h5;rw[List.getElem?_map]at h6
   cases hq:l[j']? with
   |none=>rw[hq]at h6;cases h6
   |some q'=>
    rw[hq]at h6
    have e0:(q'.1:Int)=(p.1:Int):=by simpa using h6
    have e1:q'.1=p.1:=by omega
    have a1:(l.map Prod.fst)[j']?=some p.1:=by rw[List.getElem?_map,hq];simp[e1]
    have a2:(l.map Prod.fst)[j]?=some p.1:=by rw[List.getElem?_map,hj];rfl
    obtain⟨b1,b2⟩:=List.getElem?_eq_some_iff.1 a1;obtain⟨b3,b4⟩:=List.getElem?_eq_some_iff.1 a2;rw[h5];have hp:=List.pairwise_iff_getElem.1 hn;rcases Nat.lt_trichotomy j' j with z|z|z
    ·exact absurd (b2.trans b4.symm) (hp _ _ b1 b3 z)
    ·exact z
    ·exact absurd (b4.trans b2.symm) (hp _ _ b3 b1 z)
  subst hij;simp[Builtin.delete_,run_underlying ht,Go.MapKept.run_getObj_map (show w.heap[b]?=some (.map (l.map mU).toArray g)from h),run_checkKey hk CO,h3,Go.MapKept.run_setObj_map _ (show w.heap[b]?=some (.map (l.map mU).toArray g)from h),Result.andThen,setBlock,Cr]
end
section
variable {w : World} {ib mb most given : Nat} {its : List It}
theorem UE (its:List It):(gZ its).map Prod.fst=its.map It.id:=by unfold gZ;rw[List.map_map];rfl
theorem gG.YS (h:gG w ib mb most given its){i:It}(hi:i∈its):mb≠i.cb∧ib≠i.cb∧ib≠mb:=by
 have:=h.nf;unfold bN at this;rw[List.nodup_cons,List.nodup_cons]at this;have hm:=List.mem_map_of_mem (f:=It.cb) hi;exact⟨fun e=>this.2.1 (e▸hm),fun e=>this.1 (List.mem_cons_of_mem _ (e▸hm)),fun e=>this.1 (by rw[e];simp)⟩
theorem gG.erased {j:Nat}(h:gG w ib mb most given its)(hb:aj w2 ib 129 #[nI most,nI given,.map (some mb)])(hm:iT w2 mb given ((gZ its).eraseIdx j))(hmod:Mod [mb] w w2):gG w2 ib mb most given (its.eraseIdx j):=by
 have hs:=List.eraseIdx_sublist its j;refine⟨hb,by unfold gZ at hm⊢;rw[←Cr];exact hm,fun i hi=>(h.cur i (hs.subset hi)).mod hmod (fun hh=>(h.YS (hs.subset hi)).1 (List.mem_singleton.1 hh).symm),fun i hi=>h.ids i (hs.subset hi),h.nd.sublist (hs.map _), ?_,h.few.1,by have:=hs.length_le;have:=h.few.2;omega⟩;have:=h.nf;unfold bN at this⊢;exact this.sublist (((hs.map _).cons_cons _).cons_cons _)
theorem Od {j id cb:Nat}{c:gq}(h:gG w ib mb most given its)(hj:its[j]?=some ⟨id,cb,c⟩):Calls Tryz.prog 71 #[pQ ib,nI id] w fun y w'=>y= .returned .nilIface∧gG w' ib mb most given (its.eraseIdx j)∧Mod [mb] w w':=by
 have jA:=qd (Na h (List.mem_of_getElem? hj))
 have hj2:(gZ its)[j]?=some (id,cb):=by unfold gZ;rw[List.getElem?_map,hj];rfl
 have hdel:=fun ty=>h.map.del (P:=Tryz.prog) (t:=127) Tryz.underlying127 Tryz.underlying3 hj2 (by rw[UE];exact h.nd) ty;have hms:=h.map.ak ((gZ its).eraseIdx j) given;have hmm:=h.map.zW (.map (((gZ its).eraseIdx j).map mU).toArray given);obtain⟨W2,hW2⟩:∃W2,W2=setBlock w mb (.map (((gZ its).eraseIdx j).map mU).toArray given):=⟨_,rfl⟩;rw[←hW2]at hms hmm;have him:ib∉[mb]:=fun hh=>(h.YS (List.mem_of_getElem? hj)).2.2 (List.mem_singleton.1 hh);have HE:=qd (And.intro (h.erased (j:=j) (h.blk.mod hmm him) hms hmm) hmm);have c2:=h.blk.cell 2;simp only[gl]at c2 hdel;simp only[←hW2]at hdel;clear h hj hj2 hms hmm him hW2;go_in;go_wp2_with fail;refine jA.out.mono ?_;rintro y w1 ⟨rfl,rfl⟩;go_wp2;go_ret;exact⟨rfl,HE.out⟩
def It.ended (i:It):It:=⟨i.id,i.cb,⟨0,0,true⟩⟩
theorem gG.ended (h:gG w ib mb most given its)(hb:aj w2 ib 129 #[nI most,nI given,.map (some mb)])(hm:iT w2 mb given (gZ its))(hc:∀i∈its,eX w2 i.cb ⟨0,0,true⟩):gG w2 ib mb most given (its.map It.ended):=by
 have e1:(its.map It.ended).map It.cb=its.map It.cb:=by rw[List.map_map];rfl
 have e2:(its.map It.ended).map It.id=its.map It.id:=by rw[List.map_map];rfl
 refine⟨hb,by unfold gZ at hm⊢;rw[List.map_map];exact hm,fun i hi=> ?_,fun i hi=> ?_,by rw[e2];exact h.nd,by have:=h.nf;unfold bN at this⊢;rw[e1];exact this,h.few.1,by rw[List.length_map];exact h.few.2⟩
 ·obtain⟨i',hi',rfl⟩:=List.mem_map.1 hi;exact hc i' hi'
 ·obtain⟨i',hi',rfl⟩:=List.mem_map.1 hi;exact h.ids i' hi'
end
end
section
variable {I Kk M b gv ib j mb : Nat} {its : List It} {H : Nat → Nat} {a : Pool} {W0 w : World} {E : Nat → Addr} {G ids : List Nat} {eP : aZ}
theorem Nf:∀q∈bN ib mb (its.eraseIdx j),q∈bN ib mb its:=fun q hq=>by
 unfold bN at hq⊢;simp only[List.mem_cons]at hq⊢;rcases hq with h|h|h
 ·exact .inl h
 ·exact .inr (.inl h)
 ·exact .inr (.inr (((List.eraseIdx_sublist its j).map It.cb).subset h))
theorem Xy {id cb:Nat}{c:gq}(h:lV W0 E H Kk M I b G w a ids its gv eP)(hj:its[j]?=some ⟨id,cb,c⟩):Calls Tryz.prog 39 #[pQ b,nI id] w fun y w'=>y= .returned .nilIface∧oN W0 E H Kk M I b G w w' a ids (its.eraseIdx j) gv eP:=by
 obtain⟨C,GC,mb,hS,rfl,sN⟩:=h;have hbk:=hS.blk.blk;unfold fQ.cells at hbk;have c16:=hbk.cell 16;simp only[gl]at c16;have HO:=qd (Od hS.nE hj);have HS:=qd hS;have HQ:=qd sN;clear hbk hS sN hj;go_in;go_wp2_with fail;refine HO.out.mono ?_;rintro y w1 ⟨rfl,hi,hm⟩;have hs:=HS.out.Xu hi hm (fun q hq=> .inl (by unfold bN;simp at hq⊢;exact .inr (.inl hq))) (fun q hq=> .inl (Nf q hq));have HE:=qd (show oN W0 E H Kk M I b (dQ b C GC mb its) w w1 a ids (its.eraseIdx j) gv eP from HQ.out▸hs.to);clear hs hi hm HO;go_wp2;go_ret;exact⟨rfl,HE.out⟩
end
section
variable {es es' : List av} {key : Nat}
def oF (es:List av):Nat→Option Nat:=fun k=>(look es k).map av.val
theorem Gj (es:List av)(key k:Nat):look (rest es key) k=if k=key then none else look es k:=by
 unfold look rest;rw[List.find?_filter];split
 ·rename_i h;subst h;rw[List.find?_eq_none];intro x _;simp
 ·rename_i h;congr 1;funext x;by_cases hx:x.key=k
  ·simp[hx,h]
  ·simp[hx]
theorem Ro (l:List av)(e:av)(k:Nat):look (l++[e]) k=(look l k).or (if e.key=k then some e else none):=by
 unfold look;rw[List.find?_append];congr 1;by_cases h:e.key=k
 ·simp[h]
 ·simp[h]
theorem JG (hn:(es.map av.key).Nodup)(key:Nat):(rest es key).length=if(oF es key).isSome then es.length-1 else es.length:=by
 unfold oF
 cases hl:look es key with
 |none=>rw[Ck hl];simp
 |some e=>
  obtain⟨h1,rfl⟩:=mM hl;have hp:=List.perm_cons_erase h1;have h2:=(Cm hn hp).length_eq;rw[h2,List.length_erase_of_mem h1];simp
def noRoom (M:Nat)(o:Option Nat)(n:Nat):Bool:=o.isNone && decide (M≤n)
def wN (M:Nat)(R:Nat→Option Nat)(n k v:Nat):Nat→Option Nat:=if noRoom M (R k) n then R else fun x=>if x=k then some v else R x
def yA (M:Nat)(o:Option Nat)(n:Nat):Nat:=if o.isSome||decide (M≤n)then n else n+1
def ED (R:Nat→Option Nat)(k:Nat):Nat→Option Nat:=fun x=>if x=k then none else R x
def Rp (o:Option Nat)(n:Nat):Nat:=if o.isSome then n-1 else n
theorem YT {M:Nat}:rF M es key=noRoom M (oF es key) es.length:=by
 unfold rF noRoom oF
 cases look es key<;>rfl
theorem ZT {M:Nat}{e:av}(hn:(es.map av.key).Nodup)(hn':(es'.map av.key).Nodup)(hp:es'.Perm (Hw M es e)):oF es'=wN M (oF es) es.length e.key e.val∧es'.length=yA M (oF es e.key) es.length:=by
 unfold Hw at hp;unfold wN;rw[YT]at hp;by_cases hf:noRoom M (oF es e.key) es.length=true
 ·rw[if_pos hf]at hp⊢;refine⟨funext fun k=> ?_, ?_⟩
  ·show(look es' k).map av.val=_;rw[BJ hp hn'];rfl
  ·rw[hp.length_eq];unfold noRoom at hf;unfold yA;rw[Bool.and_eq_true]at hf;rw[hf.2,Bool.or_true,if_pos rfl]
 ·rw[if_neg hf]at hp⊢;refine⟨funext fun k=> ?_, ?_⟩
  ·show(look es' k).map av.val=_;rw[BJ hp hn',Ro,Gj];by_cases hk:k=e.key
   ·rw[if_pos hk,if_pos hk.symm,if_pos hk];rfl
   ·rw[if_neg hk,if_neg (fun h=>hk h.symm),if_neg hk,Option.or_none];rfl
  ·rw[hp.length_eq,List.length_append,JG hn];unfold noRoom at hf;unfold yA
   cases hl:oF es e.key with
   |none=>
    rw[hl]at hf;simp only[Option.isNone_none,Bool.true_and]at hf;simp[hf]
   |some v=>
    have:0<es.length:=by
     cases es with
     |nil=>simp[oF,look]at hl
     |cons=>simp
    simp;omega
theorem ZU (hn:(es.map av.key).Nodup)(hn':(es'.map av.key).Nodup)(hp:es'.Perm (rest es key)):oF es'=ED (oF es) key∧es'.length=Rp (oF es key) es.length:=by
 refine⟨funext fun k=> ?_,by rw[hp.length_eq,JG hn];rfl⟩;show(look es' k).map av.val=_;rw[BJ hp hn',Gj];unfold ED;by_cases hk:k=key
 ·rw[if_pos hk,if_pos hk];rfl
 ·rw[if_neg hk,if_neg hk];rfl
def kg (W0:World)(E:Nat→Addr)(H:Nat→Nat)(K M I b:Nat)(G:List Nat)(w:World)(R:Nat→Option Nat)(n:Nat)(its:List It)(gv:Nat):Prop:=
 ∃(a:Pool) (ids:List Nat) (eP:aZ),lV W0 E H K M I b G w a ids its gv eP∧oF a.ents=R∧a.ents.length=n
def yB (W0:World)(E:Nat→Addr)(H:Nat→Nat)(K M I b:Nat)(G:List Nat)(w w':World)(R:Nat→Option Nat)(n:Nat)(its:List It)(gv:Nat):Prop:=
 ∃G',kg W0 E H K M I b G' w' R n its gv∧(∀q∈G',q∈G∨w.heap.size≤q)∧Mod G w w'
section
variable {W0 : World} {E : Nat → Addr} {H : Nat → Nat} {K M I b : Nat} {G : List Nat} {w w' : World} {R : Nat → Option Nat} {n : Nat} {its : List It} {gv : Nat}
theorem kg.below (h:kg W0 E H K M I b G w R n its gv)(hb:Below w.heap.size w w'):kg W0 E H K M I b G w' R n its gv:=by
 obtain⟨a,ids,eP,h1,h2⟩:=h;exact⟨a,ids,eP,h1.below hb,h2⟩
theorem kg.fA (h:kg W0 E H K M I b G w R n its gv):∀q∈G,q<w.heap.size∧W0.heap.size≤q:=by
 obtain⟨a,ids,eP,h1,_⟩:=h;exact h1.facts.1
theorem kg.mod {S:List Nat}(h:kg W0 E H K M I b G w R n its gv)(hm:Mod S w w')(hS:∀q∈S,q∉G∧W0.heap.size≤q):kg W0 E H K M I b G w' R n its gv:=by
 obtain⟨a,ids,eP,h1,h2⟩:=h;exact⟨a,ids,eP,h1.mod hm hS,h2⟩
theorem kg.env (h:kg W0 E H K M I b G w R n its gv):Env W0 E w:=by
 obtain⟨a,ids,eP,h1,_⟩:=h;exact h1.facts.2.2.2.2.2.2.2.2.2
theorem kg.least (h:kg W0 E H K M I b G w R n its gv):n≤M∧M≤192:=by
 obtain⟨a,ids,eP,h1,_,h3⟩:=h;exact⟨h3▸h1.facts.2.2.1,h1.facts.2.2.2.1⟩
theorem yB.of {a:Pool}{ids:List Nat}{eP:aZ}(h:oN W0 E H K M I b G w w' a ids its gv eP)(hR:oF a.ents=R)(hn:a.ents.length=n):yB W0 E H K M I b G w w' R n its gv:=by
 obtain⟨F,h1,h2,h3⟩:=h;exact⟨F,⟨a,ids,eP,h1,hR,hn⟩,h2,h3⟩
theorem abt (H:Nat→Nat)(hE:Env W0 E w)(k m i:Int)(hcf:xE k m i=true)(K M I:Nat)(hkm:(1≤K∧K≤64)∧(1≤M∧M≤192)∧k=(K:Int)∧m=(M:Int)∧i=(I:Int))(Al:1≤I∧I≤8):Calls Tryz.prog 13 #[jS k m i] w fun y w'=>∃b G,y= .returned (.tuple #[pQ b,.nilIface])∧kg W0 E H K M I b G w' (fun _=>none) 0 [] 0∧(∀q∈G,w.heap.size≤q)∧Below w.heap.size w w':=by
 refine(abq H hE k m i hcf K M I hkm Al).mono ?_;rintro y w' ⟨b,G,rfl,h1,h2,h3⟩;exact⟨b,G,rfl,⟨_,_,_,h1,rfl,rfl⟩,h2,h3⟩
theorem abu (h:kg W0 E H K M I b G w R n its gv)(e:av)(he:jW H e):Calls Tryz.prog 30 #[pQ b,nU e.key,nU e.val,nU e.hash] w fun y w'=>
  y= .returned (iQ E (if noRoom M (R e.key) n then 2 else 0))∧yB W0 E H K M I b G w w' (wN M R n e.key e.val) (yA M (R e.key) n) its gv:=by
 obtain⟨a,ids,eP,h1,rfl,rfl⟩:=h;refine(abp h1 e he).mono ?_;rintro y w' ⟨rfl,a',aJ,gH,hto,hp,_⟩;obtain⟨F,hF,hs,hm⟩:=hto;have h2:=ZT h1.facts.2.1 hF.facts.2.1 hp;exact⟨by unfold sM;rw[YT],F,⟨a',aJ,gH,hF,h2.1,h2.2⟩,hs,hm⟩
theorem abv (h:kg W0 E H K M I b G w R n its gv)(key:Nat)(h64:H key<18446744073709551616):Calls Tryz.prog 24 #[pQ b,nU key,.int .u64 (H key:Int)] w fun y w'=>y= .returned (.tuple #[.int .u64 (((R key).getD 0:Nat):Int),.bool (R key).isSome])∧yB W0 E H K M I b G w w' R n its gv:=by
 obtain⟨a,ids,eP,h1,rfl,rfl⟩:=h;refine(abr h1 key h64).mono ?_;rintro y w' ⟨rfl,gH,hto⟩;refine⟨?_,yB.of hto rfl rfl⟩;unfold EC oF
 cases look a.ents key<;>rfl
theorem UF (h:kg W0 E H K M I b G w R n its gv)(e:av)(he:jW H e):Calls Tryz.prog 29 #[pQ b,nU e.key,nU e.hash] w fun y w'=>y= .returned (.bool (R e.key).isSome)∧yB W0 E H K M I b G w w' (ED R e.key) (Rp (R e.key) n) its gv:=by
 obtain⟨a,ids,eP,h1,rfl,rfl⟩:=h;refine(UD h1 e he).mono ?_;rintro y w' ⟨rfl,a',aJ,gH,hto,hp⟩;obtain⟨F,hF,hs,hm⟩:=hto;have h2:=ZU h1.facts.2.1 hF.facts.2.1 hp;exact⟨by unfold oF;cases look a.ents e.key<;>rfl,F,⟨a',aJ,gH,hF,h2.1,h2.2⟩,hs,hm⟩
end
end
end Go.Proofs.YtgkeameopnpinaaGreatDoor
