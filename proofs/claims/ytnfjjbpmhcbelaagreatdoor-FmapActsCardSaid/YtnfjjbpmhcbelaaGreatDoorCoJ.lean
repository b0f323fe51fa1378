/- A view's functions by their contracts. -/
import Derived.Test.YtnfjjbpmhcbelaaGreatDoorCoG
import Derived.Test.YtnfjjbpmhcbelaaGreatDoorGaugeA
import Derived.Test.YtnfjjbpmhcbelaaGreatDoorSqM
import Derived.Test.YtnfjjbpmhcbelaaGreatDoorAppAny
import Derived.Deep.MidRow
namespace Go.Proofs.YtnfjjbpmhcbelaaGreatDoor
set_option maxRecDepth 100000
set_option maxHeartbeats 1000000
open Go.RowKit dI
theorem Sl (gb:Nat)(t:TypeId)(pre post:List Value)(go:Nat)(l:List Nat)(es:List av)(i:Nat)(hi:i<8)(w:World)(h:cO w gb t pre post go l es)(hm:¬l.getD i 0<128)(E:Nat→Addr)(hE:fJ E w 5):
  Calls Tryz.prog 156 #[bC ⟨gb,go,none⟩,nI i] w fun e w'=>e= .returned (.tuple #[aP ⟨0,0,0⟩,.bool false])∧Below w.heap.size w w':=by
 obtain⟨W,hW,hB,hV,hD⟩:=kN w 201 #[.pointer (some ⟨gb,go,none⟩)] 166 #[.int .u64 0,.int .u64 0,.int .u64 0];have HF:=qd (Na gb t pre post go l es i hi W (h.below hB) hm E (hE.below hB (Nat.le_refl _)));have HW:=qd hW;unfold bC at HF⊢;unfold aP;clear hW h hi hE hm;go_in;go_wp2_with fail;rw[←HW.out];have v0:=hV.cell 0;simp only[List.getElem?_toArray,List.getElem?_cons_zero]at v0;go_wp2_with fail;refine(HF.out).mono ?_;rintro e w1 ⟨rfl,hb⟩;have hD1:=hD.below hb hD.lt;obtain⟨d0,d1,d2⟩:=hD1.c3;obtain⟨f0,f1,f2⟩:=hD1.f3;have hB1:=qd (bP hb hB);clear hb hB hD hV;go_wp2;refine bodyPost_ret (v:= .tuple #[.agg #[.int .u64 0,.int .u64 0,.int .u64 0],.bool false]) ?_ rfl ⟨rfl, ?_⟩
 ·simp[results,Tryz.results156,go_sem,d0,d1,d2]
 ·repeat (with_reducible first|exact hB1.out|refine Below.setCell ?_ ?_ _)
  all_goals (simp;try omega)
theorem UO (gb:Nat)(t:TypeId)(pre post:List Value)(go:Nat)(l:List Nat)(es:List av)(w:World)(h:cO w gb t pre post go l es)(hT:fP w):
  Calls Tryz.prog 153 #[bC ⟨gb,go,none⟩] w fun e w'=>e= .returned (.int .i64 (uF (firstM (l.map eu))))∧Below w.heap.size w w':=by
 have hg:=(World.block_lt_of_cell? w _ (hT 0 (by omega)));have hB:=(Below.refl w.heap.size w).alloc (Nat.le_refl _) (.cells #[.pointer (some ⟨gb,go,none⟩)] 201);have hV:=aj.new w 201 #[.pointer (some ⟨gb,go,none⟩)];obtain⟨W,hW⟩:∃W,W=w.alloc (.cells #[.pointer (some ⟨gb,go,none⟩)] 201):=⟨_,rfl⟩;rw[←hW]at hB hV;have hG:=h.below hB;have hT1:fP W:=fun i hi=>(hB.cell (p:=⟨17,pO i,none⟩) hg).trans (hT i hi);have H1:=qd (R7 l h.l8 h.bytes);have H2:=qd (R5 (l.map eu) (by simpa using h.l8) (rD l).bytes W hT1);rw[vg (rD l)]at H2;have HW:=qd hW;have hw:=hG.word;have v0:=hV.cell 0;simp only[List.getElem?_toArray,List.getElem?_cons_zero]at v0;have HB:=qd hB;unfold bC;clear hW h hT hT1 hG hB hV;go_in;go_upto_region 1 with fail;rw[←HW.out];go_wp2_with fail;refine(H1.out _).mono ?_;rintro e w1 ⟨rfl,rfl⟩;go_wp2_with fail;refine H2.out.mono ?_;rintro e w1 ⟨rfl,rfl⟩;go_wp2;go_ret;exact⟨rfl,HB.out⟩
theorem UQ {l:List Nat}:(((w8 (l.map (kU 128)):Nat):Int) !=0)=l.any (·==128):=by
 cases hb:l.any (·==128)with
 |true=>
  rw[bne_iff_ne];intro h0;obtain⟨x,hx,he⟩:=List.any_eq_true.1 hb;have:=(zS _).1 (by omega:w8 (l.map (kU 128))=0) (kU 128 x) (List.mem_map_of_mem hx);rw[beq_iff_eq]at he;subst he;simp[kU]at this
 |false=>
  rw[bne_eq_false_iff_eq]
  have:w8 (l.map (kU 128))=0:=(zS _).2 fun b hx=>by
   obtain⟨y,hy,rfl⟩:=List.mem_map.1 hx;have:=List.any_eq_false.1 hb y hy;unfold kU;rw[if_neg (by simpa using this)]
  omega
theorem CR (gb:Nat)(t:TypeId)(pre post:List Value)(go:Nat)(l:List Nat)(es:List av)(w:World)(h:cO w gb t pre post go l es):
  Calls Tryz.prog 155 #[bC ⟨gb,go,none⟩] w fun e w'=>e= .returned (.bool (l.any (·==128)))∧Below w.heap.size w w':=by
 have hB:=(Below.refl w.heap.size w).alloc (Nat.le_refl _) (.cells #[.pointer (some ⟨gb,go,none⟩)] 201);have hV:=aj.new w 201 #[.pointer (some ⟨gb,go,none⟩)];obtain⟨W,hW⟩:∃W,W=w.alloc (.cells #[.pointer (some ⟨gb,go,none⟩)] 201):=⟨_,rfl⟩;rw[←hW]at hB hV;have hG:=h.below hB;have H1:=qd (MS l h.l8 h.bytes);have HO:=qd (UQ (l:=l));have HW:=qd hW;have hw:=hG.word;have v0:=hV.cell 0;simp only[List.getElem?_toArray,List.getElem?_cons_zero]at v0;have HB:=qd hB;unfold bC;clear hW h hG hB hV;generalize w8 (l.map (kU 128))=m at*;generalize l.any (·==128)=o at*;go_in;go_upto_region 1 with fail;rw[←HW.out];go_wp2_with fail;refine(H1.out _).mono ?_;rintro e w1 ⟨rfl,rfl⟩;have ho:=HO.out;go_wp2;go_ret;exact⟨rfl,HB.out⟩
theorem CS (gb:Nat)(t:TypeId)(pre post:List Value)(go:Nat)(l:List Nat)(es:List av)(i b:Nat)(hi:i<8)(nQ:b<256)(hb:b≤128∨b=254)(w:World)(h:cO w gb t pre post go l es):
  Calls Tryz.prog 222 #[bC ⟨gb,go,none⟩,nI i,.int .u8 (b:Int)] w fun e w'=>e= .returned undef∧cO w' gb t pre post go (l.set i b) es∧Mod [gb] w w':=by
 have hB:=(Below.refl w.heap.size w).alloc (Nat.le_refl _) (.cells #[.pointer (some ⟨gb,go,none⟩)] 201);have hV:=aj.new w 201 #[.pointer (some ⟨gb,go,none⟩)];obtain⟨W,hW⟩:∃W,W=w.alloc (.cells #[.pointer (some ⟨gb,go,none⟩)] 201):=⟨_,rfl⟩;rw[←hW]at hB hV;have hG:=h.below hB;have hlt:=h.lt;have H1:=qd (X4 l h.l8 h.bytes i b hi nQ hb);have HW:=qd hW;have hw:=hG.word;have v0:=hV.cell 0;simp only[List.getElem?_toArray,List.getElem?_cons_zero]at v0;have HB:=qd hB;unfold bC;clear hW h hB hV hi hb;go_in;go_upto_region 1 with fail;rw[←HW.out];go_wp2_with fail;refine(H1.out _).mono ?_;rintro e w1 ⟨rfl,n,rfl⟩;have hf:=hG.vB go;have HS:=qd (show cO (W.drewN n) gb t pre post go l es from⟨hG.len,hG.l8,hG.bytes,hG.e8,hG.blk.drewN n⟩);clear hG;go_wp2;go_end0;exact⟨rfl,HS.out.Ye i b nQ,((Mod.of_below HB.out [gb]).then (Mod.drewN [gb] W n)).ak (.inl (by simp)) _ _⟩
theorem cO.drew {w:World}{gb go:Nat}{t:TypeId}{pre post:List Value}{l:List Nat}{es:List av}(h:cO w gb t pre post go l es):cO w.drew gb t pre post go l es:=⟨h.len,h.l8,h.bytes,h.e8,h.blk.drew⟩
theorem Yf (gb:Nat)(t:TypeId)(pre post:List Value)(go:Nat)(l:List Nat)(es:List av)(i:Nat)(hi:i<8)(e:av)(h64:e.hash<18446744073709551616)(w:World)(h:cO w gb t pre post go l es)(hm:¬l.getD i 0<128):
  Calls Tryz.prog 159 #[bC ⟨gb,go,none⟩,nI i,aP e] w fun x w'=>x= .returned (.tuple #[.bool (l.getD i 0==254),.nilIface])∧cO w' gb t pre post go (l.set i (e.hash % 128)) (es.set i e)∧Mod [gb] w w':=by
 obtain⟨W,hW,hB,hV,hE⟩:=kN w 201 #[.pointer (some ⟨gb,go,none⟩)] 166 #[nU e.key,nU e.val,nU e.hash];have hG:=h.below hB;have hlt:=h.lt;have HF:=qd (oJ gb t pre post go l es i hi false W hG (decide_eq_false hm));have HGt:=qd (FZ l h.bytes i hi);have H2:=qd (MW e.hash h64);have HM:=qd (fun(u:World) (hu:cO u gb t pre post go l (es.set i e))=>CS gb t pre post go l (es.set i e) i (e.hash % 128) hi (by omega) (.inl (by omega)) u hu)
 have EO:(i:Int)<8:=by omega
 have hi0:(0:Int)≤(i:Int):=by omega
 have HO:∀b:Nat,(((b:Nat):Int)==254)=(b==254):=fun b=>by rw[Bool.eq_iff_iff,beq_iff_eq,beq_iff_eq];omega
 have Cc:=qd (HO (l.getD i 0));have HW:=qd hW;have HB:=qd hB
 have hne:gb≠w.heap.size:=by omega
 have hne1:gb≠w.heap.size+1:=by omega
 unfold bC at HF HM⊢;unfold aP;clear hW h hB hm HO;generalize(l.getD i 0==254)=o at*;generalize l.getD i 0=b at*;go_in;go_upto_region 1 with fail;rw[←HW.out];have v0:=hV.cell 0;simp only[List.getElem?_toArray,List.getElem?_cons_zero]at v0;go_wp2_with fail;refine(HF.out).mono ?_;rintro e w1 ⟨rfl,hb⟩;replace hG:=hG.below hb;have hE1:=hE.below hb hE.lt;replace v0:=aI hb v0;have hw:=hG.word;obtain⟨e0,e1,e2⟩:=hE1.c3;go_wp2_with fail;refine(HGt.out _).mono ?_;rintro e w2 ⟨rfl,rfl⟩;have ho:=Cc.out;go_upto_region 5 with fail;have s0:=hG.at_ i 0 hi (by omega);have s1:=hG.at_ i 1 hi (by omega);have s2:=hG.at_ i 2 hi (by omega);rw[Nat.add_zero]at s0;simp only[aV,List.getElem?_cons_zero,List.getElem?_cons_succ]at s0 s1 s2;have g0:=hG.vB (go+1+i*3);have g1:=hG.vB (go+1+i*3+1);have g2:=hG.vB (go+1+i*3+2);refine rT (fun w'=>w'=World.drew w1) [7] ?_;have hHeld:(fun w'=>w'=World.drew w1) (World.drew w1):=rfl;refine vW 0 rfl ?_;refine vT 1 rfl ?_;refine vW 2 rfl ?_;refine vT 3 rfl ?_;refine vW 4 rfl ?_;refine vW 5 rfl ?_;refine vW 6 rfl ?_;refine nT 7 rfl fun K hK=> ?_;go_simp;refine kO hK ?_;clear hK K;refine aR (by kernel_rfl) ?_ _;obtain⟨w2,hw2⟩:∃w2,w2=(((w1.setCell ⟨gb,go+1+i*3,none⟩ (nU e.key)).setCell ⟨gb,go+1+i*3+1,none⟩ (nU e.val)).setCell ⟨gb,go+1+i*3+2,none⟩ (nU e.hash)).drew:=⟨_,rfl⟩;rw[←hw2];have hG2:cO w2 gb t pre post go l (es.set i e):=hw2▸(hG.Jm i hi e).drew
 have hV2:aj w2 w.heap.size 201 #[.pointer (some ⟨gb,go,none⟩)]:=by
  rw[hw2];exact(((aj.far (hV.below hb hV.lt) (p:=⟨gb,go+1+i*3,none⟩) (Ne.symm hne) _).far (p:=⟨gb,go+1+i*3+1,none⟩) (Ne.symm hne) _).far (p:=⟨gb,go+1+i*3+2,none⟩) (Ne.symm hne) _).drew
 have hE2:aj w2 (w.heap.size+1) 166 #[nU e.key,nU e.val,nU e.hash]:=by
  rw[hw2];exact(((hE1.far (p:=⟨gb,go+1+i*3,none⟩) (Ne.symm hne1) _).far (p:=⟨gb,go+1+i*3+1,none⟩) (Ne.symm hne1) _).far (p:=⟨gb,go+1+i*3+2,none⟩) (Ne.symm hne1) _).drew
 have hM2:Mod [gb] w w2:=by
  rw[hw2];exact((((((Mod.of_below HB.out [gb]).then (Mod.of_below hb [gb])).ak (.inl (by simp)) _ _).ak (.inl (by simp)) _ _).ak (.inl (by simp)) _ _)).then (Mod.drewN [gb] _ 1)
 have HW2:=qd (And.intro hG2 hM2);clear hw2 hG2 hM2 v0 hw e0 e1 e2 s0 s1 s2 g0 g1 g2 hE1 hb hE hV hG;go_upto_region 6 with fail;have v0:=hV2.cell 0;have e2:=hE2.cell 2;simp only[gl]at v0 e2;refine rT (fun w'=>w'=World.drew w2) [5] ?_;have hHeld:(fun w'=>w'=World.drew w2) (World.drew w2):=rfl;refine vT 0 rfl ?_;refine vW 1 rfl ?_;refine vW 2 rfl ?_;refine vT 3 rfl ?_;refine nT 4 rfl fun K hK=> ?_;go_simp;refine(H2.out _).mono ?_;rintro e w1 ⟨rfl,rfl⟩;go_wp2_with fail;have hHeld:=show(fun w'=>w'=World.drew w2) _ from rfl;refine kO hK ?_;clear hK K;refine nT 5 rfl fun K hK=> ?_;go_simp;refine(HM.out _ HW2.out.1.drew).mono ?_;rintro e w3 ⟨rfl,hG3,gZ⟩;have HG3:=qd hG3;have Nc:=qd gZ;clear hG3 gZ;go_wp2_with fail;refine kO hK ?_;clear hK K;refine aR (by kernel_rfl) ?_ _;go_wp2;refine bodyPost_ret (v:= .tuple #[.bool o,.nilIface]) (by simp[results,Tryz.results159,go_sem]) rfl ⟨rfl,HG3.out,(HW2.out.2.then (Mod.drewN [gb] _ 1)).then Nc.out⟩
theorem Yg (gb:Nat)(t:TypeId)(pre post:List Value)(go:Nat)(l:List Nat)(es:List av)(i:Nat)(hi:i<8)(v:Nat)(w:World)(h:cO w gb t pre post go l es)(hm:l.getD i 0<128):
  Calls Tryz.prog 157 #[bC ⟨gb,go,none⟩,nI i,nU v] w fun x w'=>x= .returned .nilIface∧cO w' gb t pre post go l (es.set i {es.getD i ⟨0,0,0⟩with val:=v})∧Mod [gb] w w':=by
 have hB:=(Below.refl w.heap.size w).alloc (Nat.le_refl _) (.cells #[.pointer (some ⟨gb,go,none⟩)] 201);have hV:=aj.new w 201 #[.pointer (some ⟨gb,go,none⟩)];obtain⟨W,hW⟩:∃W,W=w.alloc (.cells #[.pointer (some ⟨gb,go,none⟩)] 201):=⟨_,rfl⟩;rw[←hW]at hB hV;have hG:=h.below hB;have HF:=qd (oJ gb t pre post go l es i hi true W hG (decide_eq_true hm))
 have EO:(i:Int)<8:=by omega
 have hi0:(0:Int)≤(i:Int):=by omega
 have HW:=qd hW;have HB:=qd hB;unfold bC at HF⊢;clear hW h hB hm;go_in;go_upto_region 1 with fail;rw[←HW.out];have v0:=hV.cell 0;simp only[List.getElem?_toArray,List.getElem?_cons_zero]at v0;go_wp2_with fail;refine(HF.out).mono ?_;rintro e w1 ⟨rfl,hb⟩;replace hG:=hG.below hb;replace v0:=aI hb v0;have s1:=hG.at_ i 1 hi (by omega);simp only[aV,List.getElem?_cons_zero,List.getElem?_cons_succ]at s1;have g1:=hG.vB (go+1+i*3+1);have HG1:=qd (hG.aa7 i hi v);have UR:=qd (((Mod.of_below HB.out [gb]).then (Mod.of_below hb [gb])).sl (go+1+i*3+1) (nU v));clear hG hb hV;go_wp2;go_ret;exact⟨rfl,HG1.out,UR.out⟩
theorem Hw (gb:Nat)(t:TypeId)(pre post:List Value)(go:Nat)(l:List Nat)(es:List av)(i:Nat)(hi:i<8)(w:World)(h:cO w gb t pre post go l es)(hm:l.getD i 0<128)(ho:l.any (·==128)=true):
  Calls Tryz.prog 264 #[bC ⟨gb,go,none⟩,nI i] w fun x w'=>x= .returned (.tuple #[.bool false,.nilIface])∧cO w' gb t pre post go (l.set i 128) (es.set i ⟨0,0,0⟩)∧Mod [gb] w w':=by
 have hB:=(Below.refl w.heap.size w).alloc (Nat.le_refl _) (.cells #[.pointer (some ⟨gb,go,none⟩)] 201);have hV:=aj.new w 201 #[.pointer (some ⟨gb,go,none⟩)];obtain⟨W,hW⟩:∃W,W=w.alloc (.cells #[.pointer (some ⟨gb,go,none⟩)] 201):=⟨_,rfl⟩;rw[←hW]at hB hV;have hG:=h.below hB;have hlt:=h.lt;have HF:=qd (oJ gb t pre post go l es i hi true W hG (decide_eq_true hm))
 have EO:(i:Int)<8:=by omega
 have hi0:(0:Int)≤(i:Int):=by omega
 have hne:gb≠w.heap.size:=by omega
 have HW:=qd hW;have HB:=qd hB;unfold bC at HF⊢;clear hW h hB hm;have HM:=qd (fun(u:World) (hu:cO u gb t pre post go l (es.set i ⟨0,0,0⟩))=>CS gb t pre post go l (es.set i ⟨0,0,0⟩) i 128 hi (by omega) (by omega) u hu);unfold bC at HM;go_in;go_upto_region 1 with fail;rw[←HW.out];have v0:=hV.cell 0;simp only[List.getElem?_toArray,List.getElem?_cons_zero]at v0;go_wp2_with fail;refine(HF.out).mono ?_;rintro e w1 ⟨rfl,hb⟩;replace hG:=hG.below hb;replace hV:=hV.below hb hV.lt;replace v0:=aI hb v0;have HO:=qd (CR gb t pre post go l es w1 hG);rw[ho]at HO;unfold bC at HO;go_wp2_with fail;refine(HO.out).mono ?_;rintro e w2 ⟨rfl,hb2⟩;replace hG:=hG.below hb2;replace hV:=hV.below hb2 hV.lt;replace v0:=aI hb2 v0;have s0:=hG.at_ i 0 hi (by omega);have s1:=hG.at_ i 1 hi (by omega);have s2:=hG.at_ i 2 hi (by omega);rw[Nat.add_zero]at s0;simp only[aV,List.getElem?_cons_zero,List.getElem?_cons_succ]at s0 s1 s2;have g0:=hG.vB (go+1+i*3);have g1:=hG.vB (go+1+i*3+1);have g2:=hG.vB (go+1+i*3+2);go_upto_region 6 with fail;obtain⟨w3,hw3⟩:∃w3,w3=((w2.setCell ⟨gb,go+1+i*3,none⟩ (.int .u64 0)).setCell ⟨gb,go+1+i*3+1,none⟩ (.int .u64 0)).setCell ⟨gb,go+1+i*3+2,none⟩ (.int .u64 0):=⟨_,rfl⟩;rw[←hw3];have hG3:cO w3 gb t pre post go l (es.set i ⟨0,0,0⟩):=hw3▸(hG.Jm i hi ⟨0,0,0⟩)
 have hV3:aj w3 w.heap.size 201 #[.pointer (some ⟨gb,go,none⟩)]:=by
  rw[hw3];exact((hV.far (p:=⟨gb,go+1+i*3,none⟩) (Ne.symm hne) _).far (p:=⟨gb,go+1+i*3+1,none⟩) (Ne.symm hne) _).far (p:=⟨gb,go+1+i*3+2,none⟩) (Ne.symm hne) _
 have yP:Mod [gb] w w3:=by
  rw[hw3];exact((((((Mod.of_below HB.out [gb]).then (Mod.of_below hb [gb])).then (Mod.of_below hb2 [gb])).ak (.inl (by simp)) _ _).ak (.inl (by simp)) _ _).ak (.inl (by simp)) _ _)
 have HW3:=qd (And.intro hG3 yP);clear hw3 hG3 yP v0 s0 s1 s2 g0 g1 g2 hb hb2 hV hG;have v0:=hV3.cell 0;simp only[List.getElem?_toArray,List.getElem?_cons_zero]at v0;go_wp2_with fail;refine(HM.out _ HW3.out.1).mono ?_;rintro e w4 ⟨rfl,hG4,ku⟩;have HG4:=qd hG4;have EP:=qd (HW3.out.2.then ku);clear hG4 ku;go_wp2;refine bodyPost_ret (v:= .tuple #[.bool false,.nilIface]) (by simp[results,Tryz.results264,go_sem]) rfl ⟨rfl,HG4.out,EP.out⟩
theorem Hy (gb:Nat)(t:TypeId)(pre post:List Value)(go:Nat)(l:List Nat)(es:List av)(i:Nat)(hi:i<8)(w:World)(h:cO w gb t pre post go l es)(hm:l.getD i 0<128)(ho:l.any (·==128)=false):
  Calls Tryz.prog 264 #[bC ⟨gb,go,none⟩,nI i] w fun x w'=>x= .returned (.tuple #[.bool true,.nilIface])∧cO w' gb t pre post go (l.set i 254) (es.set i ⟨0,0,0⟩)∧Mod [gb] w w':=by
 have hB:=(Below.refl w.heap.size w).alloc (Nat.le_refl _) (.cells #[.pointer (some ⟨gb,go,none⟩)] 201);have hV:=aj.new w 201 #[.pointer (some ⟨gb,go,none⟩)];obtain⟨W,hW⟩:∃W,W=w.alloc (.cells #[.pointer (some ⟨gb,go,none⟩)] 201):=⟨_,rfl⟩;rw[←hW]at hB hV;have hG:=h.below hB;have hlt:=h.lt;have HF:=qd (oJ gb t pre post go l es i hi true W hG (decide_eq_true hm))
 have EO:(i:Int)<8:=by omega
 have hi0:(0:Int)≤(i:Int):=by omega
 have hne:gb≠w.heap.size:=by omega
 have HW:=qd hW;have HB:=qd hB;unfold bC at HF⊢;clear hW h hB hm;have HM:=qd (fun(u:World) (hu:cO u gb t pre post go l (es.set i ⟨0,0,0⟩))=>CS gb t pre post go l (es.set i ⟨0,0,0⟩) i 254 hi (by omega) (by omega) u hu);unfold bC at HM;go_in;go_upto_region 1 with fail;rw[←HW.out];have v0:=hV.cell 0;simp only[List.getElem?_toArray,List.getElem?_cons_zero]at v0;go_wp2_with fail;refine(HF.out).mono ?_;rintro e w1 ⟨rfl,hb⟩;replace hG:=hG.below hb;replace hV:=hV.below hb hV.lt;replace v0:=aI hb v0;have HO:=qd (CR gb t pre post go l es w1 hG);rw[ho]at HO;unfold bC at HO;go_wp2_with fail;refine(HO.out).mono ?_;rintro e w2 ⟨rfl,hb2⟩;replace hG:=hG.below hb2;replace hV:=hV.below hb2 hV.lt;replace v0:=aI hb2 v0;have s0:=hG.at_ i 0 hi (by omega);have s1:=hG.at_ i 1 hi (by omega);have s2:=hG.at_ i 2 hi (by omega);rw[Nat.add_zero]at s0;simp only[aV,List.getElem?_cons_zero,List.getElem?_cons_succ]at s0 s1 s2;have g0:=hG.vB (go+1+i*3);have g1:=hG.vB (go+1+i*3+1);have g2:=hG.vB (go+1+i*3+2);go_upto_region 6 with fail;obtain⟨w3,hw3⟩:∃w3,w3=((w2.setCell ⟨gb,go+1+i*3,none⟩ (.int .u64 0)).setCell ⟨gb,go+1+i*3+1,none⟩ (.int .u64 0)).setCell ⟨gb,go+1+i*3+2,none⟩ (.int .u64 0):=⟨_,rfl⟩;rw[←hw3];have hG3:cO w3 gb t pre post go l (es.set i ⟨0,0,0⟩):=hw3▸(hG.Jm i hi ⟨0,0,0⟩)
 have hV3:aj w3 w.heap.size 201 #[.pointer (some ⟨gb,go,none⟩)]:=by
  rw[hw3];exact((hV.far (p:=⟨gb,go+1+i*3,none⟩) (Ne.symm hne) _).far (p:=⟨gb,go+1+i*3+1,none⟩) (Ne.symm hne) _).far (p:=⟨gb,go+1+i*3+2,none⟩) (Ne.symm hne) _
 have yP:Mod [gb] w w3:=by
  rw[hw3];exact((((((Mod.of_below HB.out [gb]).then (Mod.of_below hb [gb])).then (Mod.of_below hb2 [gb])).ak (.inl (by simp)) _ _).ak (.inl (by simp)) _ _).ak (.inl (by simp)) _ _)
 have HW3:=qd (And.intro hG3 yP);clear hw3 hG3 yP v0 s0 s1 s2 g0 g1 g2 hb hb2 hV hG;have v0:=hV3.cell 0;simp only[List.getElem?_toArray,List.getElem?_cons_zero]at v0;go_wp2_with fail;refine(HM.out _ HW3.out.1).mono ?_;rintro e w4 ⟨rfl,hG4,ku⟩;have HG4:=qd hG4;have EP:=qd (HW3.out.2.then ku);clear hG4 ku;go_wp2;refine bodyPost_ret (v:= .tuple #[.bool true,.nilIface]) (by simp[results,Tryz.results264,go_sem]) rfl ⟨rfl,HG4.out,EP.out⟩
theorem Nf {g:Nat}{t:TypeId}{post:List Value}:∀(vs x pre:List Value) (w:World),x.length=vs.length→aj w g t (pre++(x++post)).toArray→aj (w.setCells g pre.length vs) g t (pre++(vs++post)).toArray
 | [],x,pre,w,hl,h=>by
  have:x=[]:=List.length_eq_zero_iff.1 hl;subst this;exact h
 |v::vs,x,pre,w,hl,h=>by
  cases x with
  |nil=>simp at hl
  |cons y x=>
   have h1:=h.ak (pre.length+0) v;rw[set_mid _ _ _ _ _ (by simp)]at h1;have h2:=Nf vs x (pre++[v]) _ (by simpa using hl) (by simpa using h1);simpa[World.setCells]using h2
theorem Ng {g:Nat}{S:List Nat}(hg:g∈S){w0:World}:∀(vs:List Value) (o:Nat) (w:World),Mod S w0 w→Mod S w0 (w.setCells g o vs)
 | [],_,_,h=>h
 |v::vs,o,_,h=>Ng hg vs (o+1) _ (h.ak (.inl hg) o v)
theorem cO.ex {w:World}{gb go:Nat}{t:TypeId}{pre post:List Value}{l:List Nat}{es:List av}(h:cO w gb t pre post go l es)(j:Nat)(hj:j<25):∃v,w.cell? ⟨gb,go+j,none⟩=some v:=by
 have hl:j<(eZ l es).length:=by rw[eZ,List.length_cons,gF,h.e8];exact hj
 rw[h.blk.cell,List.getElem?_toArray,List.getElem?_append_right (by have:=h.len;omega),List.getElem?_append_left (by have:=h.len;omega)]
 have:go+j-pre.length=j:=by have:=h.len;omega
 rw[this];exact⟨_,List.getElem?_eq_getElem hl⟩
def jN:List Value:=[.int .u64 ((uD 128:Nat):Int),.int .u64 0,.int .u64 0,.int .u64 0,.int .u64 0,.int .u64 0,.int .u64 0,.int .u64 0,.int .u64 0,.int .u64 0,.int .u64 0,.int .u64 0,.int .u64 0,.int .u64 0,.int .u64 0,.int .u64 0,.int .u64 0,.int .u64 0,.int .u64 0,.int .u64 0,.int .u64 0,.int .u64 0,.int .u64 0,.int .u64 0,.int .u64 0]
theorem ER:jN=eZ (List.replicate 8 128) (List.replicate 8 ⟨0,0,0⟩):=by simp[jN,eZ,uD,aV,List.replicate]
theorem UU (w:World):Calls Tryz.prog 209 #[] w fun e w'=>e= .returned (pQ w.heap.size)∧w.alloc (.cells jN.toArray 246)=w':=by
 have H1:=qd (X3 w);go_in;go_wp2_with fail;refine(H1.out).mono ?_;rintro e w1 ⟨rfl,rfl⟩;go_wp2;go_ret;exact⟨rfl,rfl⟩
theorem Sm (gb:Nat)(t:TypeId)(pre post:List Value)(go:Nat)(l:List Nat)(es:List av)(w:World)(h:cO w gb t pre post go l es):
  Calls Tryz.prog 147 #[bC ⟨gb,go,none⟩] w fun x w'=>x= .returned undef∧cO w' gb t pre post go (List.replicate 8 128) (List.replicate 8 ⟨0,0,0⟩)∧Mod [gb] w w':=by
 have hB:=(Below.refl w.heap.size w).alloc (Nat.le_refl _) (.cells #[.pointer (some ⟨gb,go,none⟩)] 201);have hV:=aj.new w 201 #[.pointer (some ⟨gb,go,none⟩)];obtain⟨W,hW⟩:∃W,W=w.alloc (.cells #[.pointer (some ⟨gb,go,none⟩)] 201):=⟨_,rfl⟩;rw[←hW]at hB hV;have hG:=h.below hB;have HW:=qd hW;have HB:=qd hB;unfold bC;clear hW h hB;go_in;go_upto_region 1 with fail;rw[←HW.out];have v0:=hV.cell 0;simp only[List.getElem?_toArray,List.getElem?_cons_zero]at v0;refine rT (fun(w':World)=>w'.cell? ⟨w.heap.size,0,none⟩=some (.pointer (some ⟨gb,go,none⟩))) [6] ?_;have hHeld:=v0;refine vW 0 rfl ?_;refine vT 1 rfl ?_;refine nT 2 rfl fun K hK=> ?_;go_simp;refine(UU _).mono ?_;rintro e w1 ⟨rfl,hN⟩;have hb1:Below W.heap.size W w1:=hN▸((Below.refl W.heap.size W).drew).alloc (Nat.le_refl _) _;have hN1:aj w1 W.heap.size 246 jN.toArray:=hN▸aj.new W.drew _ _;clear hN;go_wp2_with fail;replace v0:=aI hb1 v0
 have hL:w1.rangeAt W.heap.size 0 jN:=fun j v hv=>by rw[hN1.cell,Nat.zero_add,List.getElem?_toArray];exact hv
 have hG1:=hG.below hb1;have hS:w1.there gb go jN.toArray.size:=fun j hj=>⟨by obtain⟨v,hv⟩:=hG1.ex j hj;rw[hv];rfl,hG1.vB _⟩;have hHeld:=v0;refine kO hK ?_;clear hK K;refine nT 3 rfl fun K hK=> ?_;go_simp;refine kO hK ?_;clear hK K;refine nT 4 rfl fun K hK=> ?_;rw[if_pos (by rfl)];refine wp_load_mid 246 (.tmp 5) rfl W.heap.size 0 rfl jN _ hL Tryz.underlying246 rfl (by kernel_rfl) ?_;refine kO hK ?_;clear hK K;refine vW 5 rfl ?_;refine nT 6 rfl fun K hK=> ?_;rw[if_pos (by rfl)];refine wp_store_mid 246 (.tmp 7) (.tmp 6) rfl gb go jN.toArray rfl rfl hS (by kernel_rfl) (by simp[jN];exact⟨rfl,rfl⟩) ?_;refine kO hK ?_;clear hK K;refine aR (by kernel_rfl) ?_ _;have hM2:Mod [gb] w (w1.setCells gb go jN):=Ng (by simp) _ _ _ (Mod.of_below (bP hb1 HB.out) [gb])
 have hG2:cO (w1.setCells gb go jN) gb t pre post go (List.replicate 8 128) (List.replicate 8 ⟨0,0,0⟩):=
  ⟨hG.len,by simp,rC (by omega),by simp,by have:=Nf jN (eZ l es) pre w1 (by rw[eZ,List.length_cons,gF,hG.e8];rfl) (hG.below hb1).blk;rw[hG.len,ER]at this;rw[ER];exact this⟩
 have HP:=qd (And.intro hG2 hM2);clear hG2 hM2;go_wp2;go_end0;exact⟨rfl,HP.out.1,HP.out.2⟩
end Go.Proofs.YtnfjjbpmhcbelaaGreatDoor
