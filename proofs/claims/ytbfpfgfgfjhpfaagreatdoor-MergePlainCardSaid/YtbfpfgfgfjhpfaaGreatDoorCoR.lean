/- A view's functions by their contracts. -/
import Derived.Test.YtbfpfgfgfjhpfaaGreatDoorCoG
import Derived.Test.YtbfpfgfgfjhpfaaGreatDoorSq
import Derived.Test.YtbfpfgfgfjhpfaaGreatDoorPlA
import Derived.Deep.MidRow
import Derived.RangeFuncNested
import Derived.RangeFuncBound
import Derived.RangeFuncCalls
import Derived.RangeFuncLeaves
import Derived.RangeFuncBox
import Derived.Shelf.Abstract
import Derived.Shelf.RegionOpen
import Derived.WalkKit
import Derived.OwnWalkIn
import Derived.TacticsInMore
import Derived.LoopNIn
import Derived.LoopIn
namespace Go.Proofs.YtbfpfgfgfjhpfaaGreatDoor
set_option maxRecDepth 100000
set_option maxHeartbeats 2000000
open Go.RowKit dP Go.Shelf
theorem Ta (gb:Nat)(t:TypeId)(pre post:List Value)(go:Nat)(l:List Nat)(es:List av)(i:Nat)(hi:i<8)(w:World)(h:cK w gb t pre post go l es)(hm:¬l.getD i 0<128)(E:Nat→Addr)(hE:gN E w 5):
  Calls Tryz.prog 140 #[bC ⟨gb,go,none⟩,.int .i64 (i:Int)] w fun e w'=>e= .returned (.tuple #[aR ⟨0,0,0⟩,.bool false])∧Below w.heap.size w w':=by
 obtain⟨W,hW,hB,hV,hD⟩:=oJ w 195 #[.pointer (some ⟨gb,go,none⟩)] 76 #[.int .u64 0,.int .u64 0,.int .u64 0];have HF:=qd (ND gb t pre post go l es i hi W (h.below hB) hm E (hE.below hB (Nat.le_refl _)));have HW:=qd hW;unfold bC at HF⊢;unfold aR;clear hW h hi hE hm;go_in;go_wp2_with fail;rw[←HW.out];have v0:=hV.cell 0;simp only[List.getElem?_toArray,List.getElem?_cons_zero]at v0;go_wp2_with fail;refine(HF.out).mono ?_;rintro e w1 ⟨rfl,hb⟩;have hD1:=hD.below hb hD.lt;obtain⟨d0,d1,d2⟩:=hD1.c3;obtain⟨f0,f1,f2⟩:=hD1.f3;have hB1:=qd (bX hb hB);clear hb hB hD hV;go_wp2;refine bodyPost_ret (v:= .tuple #[.agg #[.int .u64 0,.int .u64 0,.int .u64 0],.bool false]) ?_ rfl ⟨rfl, ?_⟩
 ·simp[results,Tryz.results140,go_sem,d0,d1,d2]
 ·repeat (with_reducible first|exact hB1.out|refine Below.setCell ?_ ?_ _)
  all_goals (simp;try omega)
theorem Vj (gb:Nat)(t:TypeId)(pre post:List Value)(go:Nat)(l:List Nat)(es:List av)(w:World)(h:cK w gb t pre post go l es)(hT:gZ w):
  Calls Tryz.prog 137 #[bC ⟨gb,go,none⟩] w fun e w'=>e= .returned (.int .i64 (uE (firstM (l.map eZ))))∧Below w.heap.size w w':=by
 have hg:=(World.block_lt_of_cell? w _ (hT 0 (by omega)));have hB:=(Below.refl w.heap.size w).alloc (Nat.le_refl _) (.cells #[.pointer (some ⟨gb,go,none⟩)] 195);have hV:=aj.new w 195 #[.pointer (some ⟨gb,go,none⟩)];obtain⟨W,hW⟩:∃W,W=w.alloc (.cells #[.pointer (some ⟨gb,go,none⟩)] 195):=⟨_,rfl⟩;rw[←hW]at hB hV;have hG:=h.below hB;have hT1:gZ W:=fun i hi=>(hB.cell (p:=⟨13,p8 i,none⟩) hg).trans (hT i hi);have H1:=qd (SG l h.l8 h.bytes);have H2:=qd (SE (l.map eZ) (by simpa using h.l8) (rH l).bytes W hT1);rw[vg (rH l)]at H2;have HW:=qd hW;have hw:=hG.word;have v0:=hV.cell 0;simp only[List.getElem?_toArray,List.getElem?_cons_zero]at v0;have HB:=qd hB;unfold bC;clear hW h hT hT1 hG hB hV;go_in;go_upto_region 1 with fail;rw[←HW.out];go_wp2_with fail;refine(H1.out _).mono ?_;rintro e w1 ⟨rfl,rfl⟩;go_wp2_with fail;refine H2.out.mono ?_;rintro e w1 ⟨rfl,rfl⟩;go_wp2;go_ret;exact⟨rfl,HB.out⟩
theorem Vk {l:List Nat}:(((w8 (l.map (lF 128)):Nat):Int) !=0)=l.any (·==128):=by
 cases hb:l.any (·==128)with
 |true=>
  rw[bne_iff_ne];intro h0;obtain⟨x,hx,he⟩:=List.any_eq_true.1 hb;have:=(Aa _).1 (by omega:w8 (l.map (lF 128))=0) (lF 128 x) (List.mem_map_of_mem hx);rw[beq_iff_eq]at he;subst he;simp[lF]at this
 |false=>
  rw[bne_eq_false_iff_eq]
  have:w8 (l.map (lF 128))=0:=(Aa _).2 fun b hx=>by
   obtain⟨y,hy,rfl⟩:=List.mem_map.1 hx;have:=List.any_eq_false.1 hb y hy;unfold lF;rw[if_neg (by simpa using this)]
  omega
theorem Dh (gb:Nat)(t:TypeId)(pre post:List Value)(go:Nat)(l:List Nat)(es:List av)(w:World)(h:cK w gb t pre post go l es):
  Calls Tryz.prog 139 #[bC ⟨gb,go,none⟩] w fun e w'=>e= .returned (.bool (l.any (·==128)))∧Below w.heap.size w w':=by
 have hB:=(Below.refl w.heap.size w).alloc (Nat.le_refl _) (.cells #[.pointer (some ⟨gb,go,none⟩)] 195);have hV:=aj.new w 195 #[.pointer (some ⟨gb,go,none⟩)];obtain⟨W,hW⟩:∃W,W=w.alloc (.cells #[.pointer (some ⟨gb,go,none⟩)] 195):=⟨_,rfl⟩;rw[←hW]at hB hV;have hG:=h.below hB;have H1:=qd (Ni l h.l8 h.bytes);have HO:=qd (Vk (l:=l));have HW:=qd hW;have hw:=hG.word;have v0:=hV.cell 0;simp only[List.getElem?_toArray,List.getElem?_cons_zero]at v0;have HB:=qd hB;unfold bC;clear hW h hG hB hV;generalize w8 (l.map (lF 128))=m at*;generalize l.any (·==128)=o at*;go_in;go_upto_region 1 with fail;rw[←HW.out];go_wp2_with fail;refine(H1.out _).mono ?_;rintro e w1 ⟨rfl,rfl⟩;have ho:=HO.out;go_wp2;go_ret;exact⟨rfl,HB.out⟩
theorem Di (gb:Nat)(t:TypeId)(pre post:List Value)(go:Nat)(l:List Nat)(es:List av)(i b:Nat)(hi:i<8)(mK:b<256)(hb:b≤128∨b=254)(w:World)(h:cK w gb t pre post go l es):
  Calls Tryz.prog 190 #[bC ⟨gb,go,none⟩,.int .i64 (i:Int),.int .u8 (b:Int)] w fun e w'=>e= .returned undef∧cK w' gb t pre post go (l.set i b) es∧Mod [gb] w w':=by
 have hB:=(Below.refl w.heap.size w).alloc (Nat.le_refl _) (.cells #[.pointer (some ⟨gb,go,none⟩)] 195);have hV:=aj.new w 195 #[.pointer (some ⟨gb,go,none⟩)];obtain⟨W,hW⟩:∃W,W=w.alloc (.cells #[.pointer (some ⟨gb,go,none⟩)] 195):=⟨_,rfl⟩;rw[←hW]at hB hV;have hG:=h.below hB;have hlt:=h.lt;have H1:=qd (Yc l h.l8 h.bytes i b hi mK hb);have HW:=qd hW;have hw:=hG.word;have v0:=hV.cell 0;simp only[List.getElem?_toArray,List.getElem?_cons_zero]at v0;have HB:=qd hB;unfold bC;clear hW h hB hV hi hb;go_in;go_upto_region 1 with fail;rw[←HW.out];go_wp2_with fail;refine(H1.out _).mono ?_;rintro e w1 ⟨rfl,n,rfl⟩;have hf:=hG.vw go;have HS:=qd (show cK (W.drewN n) gb t pre post go l es from⟨hG.len,hG.l8,hG.bytes,hG.e8,hG.blk.drewN n⟩);clear hG;go_wp2;go_end0;exact⟨rfl,HS.out.Yo i b mK,((Mod.of_below HB.out [gb]).then (Mod.drewN [gb] W n)).ak (.inl (by simp)) _ _⟩
theorem cK.drew {w:World}{gb go:Nat}{t:TypeId}{pre post:List Value}{l:List Nat}{es:List av}(h:cK w gb t pre post go l es):cK w.drew gb t pre post go l es:=⟨h.len,h.l8,h.bytes,h.e8,h.blk.drew⟩
theorem Yp (gb:Nat)(t:TypeId)(pre post:List Value)(go:Nat)(l:List Nat)(es:List av)(i:Nat)(hi:i<8)(e:av)(h64:e.hash<18446744073709551616)(w:World)(h:cK w gb t pre post go l es)(hm:¬l.getD i 0<128):
  Calls Tryz.prog 143 #[bC ⟨gb,go,none⟩,.int .i64 (i:Int),aR e] w fun x w'=>x= .returned (.tuple #[.bool (l.getD i 0==254),.nilIface])∧cK w' gb t pre post go (l.set i (e.hash % 128)) (es.set i e)∧Mod [gb] w w':=by
 obtain⟨W,hW,hB,hV,hE⟩:=oJ w 195 #[.pointer (some ⟨gb,go,none⟩)] 76 #[.int .u64 (e.key:Int),.int .u64 (e.val:Int),.int .u64 (e.hash:Int)];have hG:=h.below hB;have hlt:=h.lt;have HF:=qd (oW gb t pre post go l es i hi false W hG (decide_eq_false hm));have HGt:=qd (Gd l h.bytes i hi);have H2:=qd (Nl e.hash h64);have HM:=qd (fun(u:World) (hu:cK u gb t pre post go l (es.set i e))=>Di gb t pre post go l (es.set i e) i (e.hash % 128) hi (by omega) (.inl (by omega)) u hu)
 have Dg:(i:Int)<8:=by omega
 have hi0:(0:Int)≤(i:Int):=by omega
 have HO:∀b:Nat,(((b:Nat):Int)==254)=(b==254):=fun b=>by rw[Bool.eq_iff_iff,beq_iff_eq,beq_iff_eq];omega
 have Cu:=qd (HO (l.getD i 0));have HW:=qd hW;have HB:=qd hB
 have hne:gb≠w.heap.size:=by omega
 have hne1:gb≠w.heap.size+1:=by omega
 unfold bC at HF HM⊢;unfold aR;clear hW h hB hm HO;generalize(l.getD i 0==254)=o at*;generalize l.getD i 0=b at*;go_in;go_upto_region 1 with fail;rw[←HW.out];have v0:=hV.cell 0;simp only[List.getElem?_toArray,List.getElem?_cons_zero]at v0;go_wp2_with fail;refine(HF.out).mono ?_;rintro e w1 ⟨rfl,hb⟩;replace hG:=hG.below hb;have hE1:=hE.below hb hE.lt;replace v0:=aA hb v0;have hw:=hG.word;obtain⟨e0,e1,e2⟩:=hE1.c3;go_wp2_with fail;refine(HGt.out _).mono ?_;rintro e w2 ⟨rfl,rfl⟩;have ho:=Cu.out;go_upto_region 5 with fail;have s0:=hG.at_ i 0 hi (by omega);have s1:=hG.at_ i 1 hi (by omega);have s2:=hG.at_ i 2 hi (by omega);rw[Nat.add_zero]at s0;simp only[aG,List.getElem?_cons_zero,List.getElem?_cons_succ]at s0 s1 s2;have g0:=hG.vw (go+1+i*3);have g1:=hG.vw (go+1+i*3+1);have g2:=hG.vw (go+1+i*3+2);refine rT (fun w'=>w'=World.drew w1) [7] ?_;have hHeld:(fun w'=>w'=World.drew w1) (World.drew w1):=rfl;refine vW 0 rfl ?_;refine vT 1 rfl ?_;refine vW 2 rfl ?_;refine vT 3 rfl ?_;refine vW 4 rfl ?_;refine vW 5 rfl ?_;refine vW 6 rfl ?_;refine nT 7 rfl fun K hK=> ?_;go_simp;refine kO hK ?_;clear hK K;refine aY (by kernel_rfl) ?_ _;obtain⟨w2,hw2⟩:∃w2,w2=(((w1.setCell ⟨gb,go+1+i*3,none⟩ (.int .u64 (e.key:Int))).setCell ⟨gb,go+1+i*3+1,none⟩ (.int .u64 (e.val:Int))).setCell ⟨gb,go+1+i*3+2,none⟩ (.int .u64 (e.hash:Int))).drew:=⟨_,rfl⟩;rw[←hw2];have hG2:cK w2 gb t pre post go l (es.set i e):=hw2▸(hG.JB i hi e).drew
 have hV2:aj w2 w.heap.size 195 #[.pointer (some ⟨gb,go,none⟩)]:=by
  rw[hw2];exact(((aj.far (hV.below hb hV.lt) (p:=⟨gb,go+1+i*3,none⟩) (Ne.symm hne) _).far (p:=⟨gb,go+1+i*3+1,none⟩) (Ne.symm hne) _).far (p:=⟨gb,go+1+i*3+2,none⟩) (Ne.symm hne) _).drew
 have hE2:aj w2 (w.heap.size+1) 76 #[.int .u64 (e.key:Int),.int .u64 (e.val:Int),.int .u64 (e.hash:Int)]:=by
  rw[hw2];exact(((hE1.far (p:=⟨gb,go+1+i*3,none⟩) (Ne.symm hne1) _).far (p:=⟨gb,go+1+i*3+1,none⟩) (Ne.symm hne1) _).far (p:=⟨gb,go+1+i*3+2,none⟩) (Ne.symm hne1) _).drew
 have hM2:Mod [gb] w w2:=by
  rw[hw2];exact((((((Mod.of_below HB.out [gb]).then (Mod.of_below hb [gb])).ak (.inl (by simp)) _ _).ak (.inl (by simp)) _ _).ak (.inl (by simp)) _ _)).then (Mod.drewN [gb] _ 1)
 have HW2:=qd (And.intro hG2 hM2);clear hw2 hG2 hM2 v0 hw e0 e1 e2 s0 s1 s2 g0 g1 g2 hE1 hb hE hV hG;go_upto_region 6 with fail;have v0:=hV2.cell 0;have e2:=hE2.cell 2;simp only[gl]at v0 e2;refine rT (fun w'=>w'=World.drew w2) [5] ?_;have hHeld:(fun w'=>w'=World.drew w2) (World.drew w2):=rfl;refine vT 0 rfl ?_;refine vW 1 rfl ?_;refine vW 2 rfl ?_;refine vT 3 rfl ?_;refine nT 4 rfl fun K hK=> ?_;go_simp;refine(H2.out _).mono ?_;rintro e w1 ⟨rfl,rfl⟩;go_wp2_with fail;have hHeld:=show(fun w'=>w'=World.drew w2) _ from rfl;refine kO hK ?_;clear hK K;refine nT 5 rfl fun K hK=> ?_;go_simp;refine(HM.out _ HW2.out.1.drew).mono ?_;rintro e w3 ⟨rfl,hG3,iZ⟩;have HG3:=qd hG3;have NH:=qd iZ;clear hG3 iZ;go_wp2_with fail;refine kO hK ?_;clear hK K;refine aY (by kernel_rfl) ?_ _;go_wp2;refine bodyPost_ret (v:= .tuple #[.bool o,.nilIface]) (by simp[results,Tryz.results143,go_sem]) rfl ⟨rfl,HG3.out,(HW2.out.2.then (Mod.drewN [gb] _ 1)).then NH.out⟩
theorem Yq (gb:Nat)(t:TypeId)(pre post:List Value)(go:Nat)(l:List Nat)(es:List av)(i:Nat)(hi:i<8)(v:Nat)(w:World)(h:cK w gb t pre post go l es)(hm:l.getD i 0<128):
  Calls Tryz.prog 141 #[bC ⟨gb,go,none⟩,.int .i64 (i:Int),.int .u64 (v:Int)] w fun x w'=>x= .returned .nilIface∧cK w' gb t pre post go l (es.set i {es.getD i ⟨0,0,0⟩with val:=v})∧Mod [gb] w w':=by
 have hB:=(Below.refl w.heap.size w).alloc (Nat.le_refl _) (.cells #[.pointer (some ⟨gb,go,none⟩)] 195);have hV:=aj.new w 195 #[.pointer (some ⟨gb,go,none⟩)];obtain⟨W,hW⟩:∃W,W=w.alloc (.cells #[.pointer (some ⟨gb,go,none⟩)] 195):=⟨_,rfl⟩;rw[←hW]at hB hV;have hG:=h.below hB;have HF:=qd (oW gb t pre post go l es i hi true W hG (decide_eq_true hm))
 have Dg:(i:Int)<8:=by omega
 have hi0:(0:Int)≤(i:Int):=by omega
 have HW:=qd hW;have HB:=qd hB;unfold bC at HF⊢;clear hW h hB hm;go_in;go_upto_region 1 with fail;rw[←HW.out];have v0:=hV.cell 0;simp only[List.getElem?_toArray,List.getElem?_cons_zero]at v0;go_wp2_with fail;refine(HF.out).mono ?_;rintro e w1 ⟨rfl,hb⟩;replace hG:=hG.below hb;replace v0:=aA hb v0;have s1:=hG.at_ i 1 hi (by omega);simp only[aG,List.getElem?_cons_zero,List.getElem?_cons_succ]at s1;have g1:=hG.vw (go+1+i*3+1);have HG1:=qd (hG.abf i hi v);have Vl:=qd (((Mod.of_below HB.out [gb]).then (Mod.of_below hb [gb])).sl (go+1+i*3+1) (.int .u64 (v:Int)));clear hG hb hV;go_wp2;go_ret;exact⟨rfl,HG1.out,Vl.out⟩
theorem Ie (gb:Nat)(t:TypeId)(pre post:List Value)(go:Nat)(l:List Nat)(es:List av)(i:Nat)(hi:i<8)(w:World)(h:cK w gb t pre post go l es)(hm:l.getD i 0<128)(ho:l.any (·==128)=true):
  Calls Tryz.prog 241 #[bC ⟨gb,go,none⟩,.int .i64 (i:Int)] w fun x w'=>x= .returned (.tuple #[.bool false,.nilIface])∧cK w' gb t pre post go (l.set i 128) (es.set i ⟨0,0,0⟩)∧Mod [gb] w w':=by
 have hB:=(Below.refl w.heap.size w).alloc (Nat.le_refl _) (.cells #[.pointer (some ⟨gb,go,none⟩)] 195);have hV:=aj.new w 195 #[.pointer (some ⟨gb,go,none⟩)];obtain⟨W,hW⟩:∃W,W=w.alloc (.cells #[.pointer (some ⟨gb,go,none⟩)] 195):=⟨_,rfl⟩;rw[←hW]at hB hV;have hG:=h.below hB;have hlt:=h.lt;have HF:=qd (oW gb t pre post go l es i hi true W hG (decide_eq_true hm))
 have Dg:(i:Int)<8:=by omega
 have hi0:(0:Int)≤(i:Int):=by omega
 have hne:gb≠w.heap.size:=by omega
 have HW:=qd hW;have HB:=qd hB;unfold bC at HF⊢;clear hW h hB hm;have HM:=qd (fun(u:World) (hu:cK u gb t pre post go l (es.set i ⟨0,0,0⟩))=>Di gb t pre post go l (es.set i ⟨0,0,0⟩) i 128 hi (by omega) (by omega) u hu);unfold bC at HM;go_in;go_upto_region 1 with fail;rw[←HW.out];have v0:=hV.cell 0;simp only[List.getElem?_toArray,List.getElem?_cons_zero]at v0;go_wp2_with fail;refine(HF.out).mono ?_;rintro e w1 ⟨rfl,hb⟩;replace hG:=hG.below hb;replace hV:=hV.below hb hV.lt;replace v0:=aA hb v0;have HO:=qd (Dh gb t pre post go l es w1 hG);rw[ho]at HO;unfold bC at HO;go_wp2_with fail;refine(HO.out).mono ?_;rintro e w2 ⟨rfl,hb2⟩;replace hG:=hG.below hb2;replace hV:=hV.below hb2 hV.lt;replace v0:=aA hb2 v0;have s0:=hG.at_ i 0 hi (by omega);have s1:=hG.at_ i 1 hi (by omega);have s2:=hG.at_ i 2 hi (by omega);rw[Nat.add_zero]at s0;simp only[aG,List.getElem?_cons_zero,List.getElem?_cons_succ]at s0 s1 s2;have g0:=hG.vw (go+1+i*3);have g1:=hG.vw (go+1+i*3+1);have g2:=hG.vw (go+1+i*3+2);go_upto_region 6 with fail;obtain⟨w3,hw3⟩:∃w3,w3=((w2.setCell ⟨gb,go+1+i*3,none⟩ (.int .u64 0)).setCell ⟨gb,go+1+i*3+1,none⟩ (.int .u64 0)).setCell ⟨gb,go+1+i*3+2,none⟩ (.int .u64 0):=⟨_,rfl⟩;rw[←hw3];have hG3:cK w3 gb t pre post go l (es.set i ⟨0,0,0⟩):=hw3▸(hG.JB i hi ⟨0,0,0⟩)
 have hV3:aj w3 w.heap.size 195 #[.pointer (some ⟨gb,go,none⟩)]:=by
  rw[hw3];exact((hV.far (p:=⟨gb,go+1+i*3,none⟩) (Ne.symm hne) _).far (p:=⟨gb,go+1+i*3+1,none⟩) (Ne.symm hne) _).far (p:=⟨gb,go+1+i*3+2,none⟩) (Ne.symm hne) _
 have tO:Mod [gb] w w3:=by
  rw[hw3];exact((((((Mod.of_below HB.out [gb]).then (Mod.of_below hb [gb])).then (Mod.of_below hb2 [gb])).ak (.inl (by simp)) _ _).ak (.inl (by simp)) _ _).ak (.inl (by simp)) _ _)
 have HW3:=qd (And.intro hG3 tO);clear hw3 hG3 tO v0 s0 s1 s2 g0 g1 g2 hb hb2 hV hG;have v0:=hV3.cell 0;simp only[List.getElem?_toArray,List.getElem?_cons_zero]at v0;go_wp2_with fail;refine(HM.out _ HW3.out.1).mono ?_;rintro e w4 ⟨rfl,hG4,kS⟩;have HG4:=qd hG4;have Fp:=qd (HW3.out.2.then kS);clear hG4 kS;go_wp2;refine bodyPost_ret (v:= .tuple #[.bool false,.nilIface]) (by simp[results,Tryz.results241,go_sem]) rfl ⟨rfl,HG4.out,Fp.out⟩
theorem Ig (gb:Nat)(t:TypeId)(pre post:List Value)(go:Nat)(l:List Nat)(es:List av)(i:Nat)(hi:i<8)(w:World)(h:cK w gb t pre post go l es)(hm:l.getD i 0<128)(ho:l.any (·==128)=false):
  Calls Tryz.prog 241 #[bC ⟨gb,go,none⟩,.int .i64 (i:Int)] w fun x w'=>x= .returned (.tuple #[.bool true,.nilIface])∧cK w' gb t pre post go (l.set i 254) (es.set i ⟨0,0,0⟩)∧Mod [gb] w w':=by
 have hB:=(Below.refl w.heap.size w).alloc (Nat.le_refl _) (.cells #[.pointer (some ⟨gb,go,none⟩)] 195);have hV:=aj.new w 195 #[.pointer (some ⟨gb,go,none⟩)];obtain⟨W,hW⟩:∃W,W=w.alloc (.cells #[.pointer (some ⟨gb,go,none⟩)] 195):=⟨_,rfl⟩;rw[←hW]at hB hV;have hG:=h.below hB;have hlt:=h.lt;have HF:=qd (oW gb t pre post go l es i hi true W hG (decide_eq_true hm))
 have Dg:(i:Int)<8:=by omega
 have hi0:(0:Int)≤(i:Int):=by omega
 have hne:gb≠w.heap.size:=by omega
 have HW:=qd hW;have HB:=qd hB;unfold bC at HF⊢;clear hW h hB hm;have HM:=qd (fun(u:World) (hu:cK u gb t pre post go l (es.set i ⟨0,0,0⟩))=>Di gb t pre post go l (es.set i ⟨0,0,0⟩) i 254 hi (by omega) (by omega) u hu);unfold bC at HM;go_in;go_upto_region 1 with fail;rw[←HW.out];have v0:=hV.cell 0;simp only[List.getElem?_toArray,List.getElem?_cons_zero]at v0;go_wp2_with fail;refine(HF.out).mono ?_;rintro e w1 ⟨rfl,hb⟩;replace hG:=hG.below hb;replace hV:=hV.below hb hV.lt;replace v0:=aA hb v0;have HO:=qd (Dh gb t pre post go l es w1 hG);rw[ho]at HO;unfold bC at HO;go_wp2_with fail;refine(HO.out).mono ?_;rintro e w2 ⟨rfl,hb2⟩;replace hG:=hG.below hb2;replace hV:=hV.below hb2 hV.lt;replace v0:=aA hb2 v0;have s0:=hG.at_ i 0 hi (by omega);have s1:=hG.at_ i 1 hi (by omega);have s2:=hG.at_ i 2 hi (by omega);rw[Nat.add_zero]at s0;simp only[aG,List.getElem?_cons_zero,List.getElem?_cons_succ]at s0 s1 s2;have g0:=hG.vw (go+1+i*3);have g1:=hG.vw (go+1+i*3+1);have g2:=hG.vw (go+1+i*3+2);go_upto_region 6 with fail;obtain⟨w3,hw3⟩:∃w3,w3=((w2.setCell ⟨gb,go+1+i*3,none⟩ (.int .u64 0)).setCell ⟨gb,go+1+i*3+1,none⟩ (.int .u64 0)).setCell ⟨gb,go+1+i*3+2,none⟩ (.int .u64 0):=⟨_,rfl⟩;rw[←hw3];have hG3:cK w3 gb t pre post go l (es.set i ⟨0,0,0⟩):=hw3▸(hG.JB i hi ⟨0,0,0⟩)
 have hV3:aj w3 w.heap.size 195 #[.pointer (some ⟨gb,go,none⟩)]:=by
  rw[hw3];exact((hV.far (p:=⟨gb,go+1+i*3,none⟩) (Ne.symm hne) _).far (p:=⟨gb,go+1+i*3+1,none⟩) (Ne.symm hne) _).far (p:=⟨gb,go+1+i*3+2,none⟩) (Ne.symm hne) _
 have tO:Mod [gb] w w3:=by
  rw[hw3];exact((((((Mod.of_below HB.out [gb]).then (Mod.of_below hb [gb])).then (Mod.of_below hb2 [gb])).ak (.inl (by simp)) _ _).ak (.inl (by simp)) _ _).ak (.inl (by simp)) _ _)
 have HW3:=qd (And.intro hG3 tO);clear hw3 hG3 tO v0 s0 s1 s2 g0 g1 g2 hb hb2 hV hG;have v0:=hV3.cell 0;simp only[List.getElem?_toArray,List.getElem?_cons_zero]at v0;go_wp2_with fail;refine(HM.out _ HW3.out.1).mono ?_;rintro e w4 ⟨rfl,hG4,kS⟩;have HG4:=qd hG4;have Fp:=qd (HW3.out.2.then kS);clear hG4 kS;go_wp2;refine bodyPost_ret (v:= .tuple #[.bool true,.nilIface]) (by simp[results,Tryz.results241,go_sem]) rfl ⟨rfl,HG4.out,Fp.out⟩
theorem NI {g:Nat}{t:TypeId}{post:List Value}:∀(vs x pre:List Value) (w:World),x.length=vs.length→aj w g t (pre++(x++post)).toArray→aj (w.setCells g pre.length vs) g t (pre++(vs++post)).toArray
 | [],x,pre,w,hl,h=>by
  have:x=[]:=List.length_eq_zero_iff.1 hl;subst this;exact h
 |v::vs,x,pre,w,hl,h=>by
  cases x with
  |nil=>simp at hl
  |cons y x=>
   have h1:=h.ak (pre.length+0) v;rw[set_mid _ _ _ _ _ (by simp)]at h1;have h2:=NI vs x (pre++[v]) _ (by simpa using hl) (by simpa using h1);simpa[World.setCells]using h2
theorem NJ {g:Nat}{S:List Nat}(hg:g∈S){w0:World}:∀(vs:List Value) (o:Nat) (w:World),Mod S w0 w→Mod S w0 (w.setCells g o vs)
 | [],_,_,h=>h
 |v::vs,o,_,h=>NJ hg vs (o+1) _ (h.ak (.inl hg) o v)
theorem cK.ex {w:World}{gb go:Nat}{t:TypeId}{pre post:List Value}{l:List Nat}{es:List av}(h:cK w gb t pre post go l es)(j:Nat)(hj:j<25):∃v,w.cell? ⟨gb,go+j,none⟩=some v:=by
 have hl:j<(fP l es).length:=by rw[fP,List.length_cons,gV,h.e8];exact hj
 rw[h.blk.cell,List.getElem?_toArray,List.getElem?_append_right (by have:=h.len;omega),List.getElem?_append_left (by have:=h.len;omega)]
 have:go+j-pre.length=j:=by have:=h.len;omega
 rw[this];exact⟨_,List.getElem?_eq_getElem hl⟩
def kg:List Value:=[.int .u64 ((uD 128:Nat):Int),.int .u64 0,.int .u64 0,.int .u64 0,.int .u64 0,.int .u64 0,.int .u64 0,.int .u64 0,.int .u64 0,.int .u64 0,.int .u64 0,.int .u64 0,.int .u64 0,.int .u64 0,.int .u64 0,.int .u64 0,.int .u64 0,.int .u64 0,.int .u64 0,.int .u64 0,.int .u64 0,.int .u64 0,.int .u64 0,.int .u64 0,.int .u64 0]
theorem Fq:kg=fP (List.replicate 8 128) (List.replicate 8 ⟨0,0,0⟩):=by simp[kg,fP,uD,aG,List.replicate]
theorem Vm (w:World):Calls Tryz.prog 177 #[] w fun e w'=>e= .returned (.pointer (some ⟨w.heap.size,0,none⟩))∧w.alloc (.cells kg.toArray 239)=w':=by
 have H1:=qd (Yb w);go_in;go_wp2_with fail;refine(H1.out).mono ?_;rintro e w1 ⟨rfl,rfl⟩;go_wp2;go_ret;exact⟨rfl,rfl⟩
theorem Tc (gb:Nat)(t:TypeId)(pre post:List Value)(go:Nat)(l:List Nat)(es:List av)(w:World)(h:cK w gb t pre post go l es):
  Calls Tryz.prog 131 #[bC ⟨gb,go,none⟩] w fun x w'=>x= .returned undef∧cK w' gb t pre post go (List.replicate 8 128) (List.replicate 8 ⟨0,0,0⟩)∧Mod [gb] w w':=by
 have hB:=(Below.refl w.heap.size w).alloc (Nat.le_refl _) (.cells #[.pointer (some ⟨gb,go,none⟩)] 195);have hV:=aj.new w 195 #[.pointer (some ⟨gb,go,none⟩)];obtain⟨W,hW⟩:∃W,W=w.alloc (.cells #[.pointer (some ⟨gb,go,none⟩)] 195):=⟨_,rfl⟩;rw[←hW]at hB hV;have hG:=h.below hB;have HW:=qd hW;have HB:=qd hB;unfold bC;clear hW h hB;go_in;go_upto_region 1 with fail;rw[←HW.out];have v0:=hV.cell 0;simp only[List.getElem?_toArray,List.getElem?_cons_zero]at v0;refine rT (fun(w':World)=>w'.cell? ⟨w.heap.size,0,none⟩=some (.pointer (some ⟨gb,go,none⟩))) [6] ?_;have hHeld:=v0;refine vW 0 rfl ?_;refine vT 1 rfl ?_;refine nT 2 rfl fun K hK=> ?_;go_simp;refine(Vm _).mono ?_;rintro e w1 ⟨rfl,hN⟩;have hb1:Below W.heap.size W w1:=hN▸((Below.refl W.heap.size W).drew).alloc (Nat.le_refl _) _;have hN1:aj w1 W.heap.size 239 kg.toArray:=hN▸aj.new W.drew _ _;clear hN;go_wp2_with fail;replace v0:=aA hb1 v0
 have hL:w1.rangeAt W.heap.size 0 kg:=fun j v hv=>by rw[hN1.cell,Nat.zero_add,List.getElem?_toArray];exact hv
 have hG1:=hG.below hb1;have hS:w1.there gb go kg.toArray.size:=fun j hj=>⟨by obtain⟨v,hv⟩:=hG1.ex j hj;rw[hv];rfl,hG1.vw _⟩;have hHeld:=v0;refine kO hK ?_;clear hK K;refine nT 3 rfl fun K hK=> ?_;go_simp;refine kO hK ?_;clear hK K;refine nT 4 rfl fun K hK=> ?_;rw[if_pos (by rfl)];refine wp_load_mid 239 (.tmp 5) rfl W.heap.size 0 rfl kg _ hL Tryz.underlying239 rfl (by kernel_rfl) ?_;refine kO hK ?_;clear hK K;refine vW 5 rfl ?_;refine nT 6 rfl fun K hK=> ?_;rw[if_pos (by rfl)];refine wp_store_mid 239 (.tmp 7) (.tmp 6) rfl gb go kg.toArray rfl rfl hS (by kernel_rfl) (by simp[kg];exact⟨rfl,rfl⟩) ?_;refine kO hK ?_;clear hK K;refine aY (by kernel_rfl) ?_ _;have hM2:Mod [gb] w (w1.setCells gb go kg):=NJ (by simp) _ _ _ (Mod.of_below (bX hb1 HB.out) [gb])
 have hG2:cK (w1.setCells gb go kg) gb t pre post go (List.replicate 8 128) (List.replicate 8 ⟨0,0,0⟩):=
  ⟨hG.len,by simp,rG (by omega),by simp,by have:=NI kg (fP l es) pre w1 (by rw[fP,List.length_cons,gV,hG.e8];rfl) (hG.below hb1).blk;rw[hG.len,Fq]at this;rw[Fq];exact this⟩
 have HP:=qd (And.intro hG2 hM2);clear hG2 hM2;go_wp2;go_end0;exact⟨rfl,HP.out.1,HP.out.2⟩
section
variable {n n₀ : Nat} {S : List Nat} {A w w' : World} {P : Program}
attribute [local go_sem] Oper.semAt_some
structure aV (n₀:Nat)(S:List Nat)(A B:World):Prop where
 os:B.os=A.os
 tape:B.tape=A.tape
 output:B.output=A.output
 size:A.heap.size≤B.heap.size
 block:∀k,k<n₀→k∉S→B.heap[k]?=A.heap[k]?
theorem aV.refl (n₀:Nat)(S:List Nat)(w:World):aV n₀ S w w:=⟨rfl,rfl,rfl,Nat.le_refl _,fun _ _ _=>rfl⟩
theorem aV.drew (n₀:Nat)(S:List Nat)(w:World):aV n₀ S w w.drew:=⟨rfl,rfl,rfl,Nat.le_refl _,fun _ _ _=>rfl⟩
theorem dW {B C:World}(h:aV n₀ S A B)(k:aV n₀ S B C):aV n₀ S A C:=
 ⟨k.os.trans h.os,k.tape.trans h.tape,k.output.trans h.output,Nat.le_trans h.size k.size,fun i hi hs=>(k.block i hi hs).trans (h.block i hi hs)⟩
theorem Mod.wP {B:World}(h:Mod S A B)(hn:n₀≤A.heap.size):aV n₀ S A B:=
 ⟨h.os,h.tape,h.output,h.size,fun k hk hs=>h.block k (Nat.lt_of_lt_of_le hk hn) hs⟩
theorem aV.of_below {B:World}(h:Below n₀ A B):aV n₀ S A B:=⟨h.os,h.tape,h.output,h.size,fun k hk _=>h.block k hk⟩
theorem aV.ak (h:aV n₀ S w w'){b:Nat}(hb:b∈S∨n₀≤b)(o:Nat)(u:Value):aV n₀ S w (w'.setCell ⟨b,o,none⟩ u):=
 ⟨h.os,h.tape,h.output,by simpa using h.size,fun k hk hn=>by
  have hne:k≠b:=by rintro rfl;rcases hb with hb|hb;exact hn hb;omega
  exact(Below.heap_setCell w' ⟨b,o,none⟩ u k hne).trans (h.block k hk hn)⟩
theorem xE (hn:n₀≤w.heap.size)(W:World)(l:Nat)(o o':Obj)(hl:w.heap.size≤l)(_:W.heap[l]?=some o)(_:o.isCells=false)(_:o.isWalk=false):aV n₀ S W (W.putObj l o'):=
 ⟨rfl,rfl,rfl,by simp,fun k hk _=>World.putObj_heap_other (by omega)⟩
theorem aV.grown {a:World}{row:Option Nat}(h:aV n₀ S a w)(hg:w.grownBy w' row)(hn:n₀≤w.heap.size)(hr:∀k,row=some k→n₀≤k):aV n₀ S a w':=
 dW h ⟨hg.os,hg.tape,hg.output,hg.size,fun k hk _=>hg.block k (by omega) (fun e=>by have:=hr k e.symm;omega)⟩
theorem qQ {β:Type}{B:Nat}{w₀:World}(hn:n₀≤w₀.heap.size)(hB:n₀≤B):OwnFrom B (fun(_:β) W=>aV n₀ S w₀ W):=
 fun _ _ _ _ hs hg hr=>hs.grown hg (Nat.le_trans hn hs.size) (fun k e=>Nat.le_trans hB (hr k e).1)
theorem aV.cell {B:World}(h:aV n₀ S A B){p:Addr}(hp:p.block<n₀)(hs:p.block∉S):B.cell? p=A.cell? p:=World.cell?_of_block (w:=A) (h.block p.block hp hs)
theorem aV.mod {B:World}(h:aV A.heap.size S A B):Mod S A B:=⟨h.os,h.tape,h.output,h.size,fun k hk hs=>h.block k hk hs⟩
theorem aV.tz {B:World}(h:aV n₀ S A B)(hg:13 <n₀)(hs:13 ∉S)(hT:gZ A):gZ B:=fun i hi=>(h.cell (p:=⟨13,p8 i,none⟩) hg hs).trans (hT i hi)
theorem aV.blk {B:World}{g:Nat}{t:TypeId}{cs:Array Value}(h:aV n₀ S A B)(hb:aj A g t cs)(hg:g<n₀)(hs:g∉S):aj B g t cs:=(h.block g hg hs).trans hb
theorem uF {f:FuncId}{args:Array Value}{q:Nat}{R:Ending→World→Prop}(h:Calls P f args w R):CallsIn Fence.wide q P f args w R:=callsIn_wide.2 h
abbrev Ah (x:Nat):Array Value:= #[.int .i64 (x:Int)]
theorem Vn (q:Nat)(hq:1≤q)(lp Bs:Nat)(l:List Nat)(hl:l.length=8)(hb:Bytes l)(Kp:World→World→Prop)(hT:∀A B,Kp A B→gZ A→gZ B)(J Jx:List Nat→World→Prop)(hY:∀pre x W,x<8→J pre W→pre.length<8→YieldAt Fence.wide (q-1) Tryz.prog lp (Ah x) W fun e W'=>
   (e= .returned (.bool true)∧J (pre++[x]) W'∧Kp W W')∨(e= .returned (.bool false)∧Jx (pre++[x]) W')) (W:World) (hc:W.cell? ⟨Bs,0,none⟩=some (.int .u64 ((w8 l:Nat):Int))) (mM:gZ W) (h0:J [] W):
  CallsIn Fence.wide q Tryz.prog 216 #[.func (.yield lp) #[] #[],.pointer (some ⟨Bs,0,none⟩)] W fun e W'=>(∃v,e= .returned v)∧
   ((∃ys,ys=dw 0 (l.map eZ)∧J ys W')∨(∃pre,(∃r,pre++r=dw 0 (l.map eZ))∧Jx pre W')):=by
 have HH:=qd (fun V=>uF (q:=q-1) (vk l hl hb V));have HF:=qd (fun(m:List Nat) (hm:Marks m) (hml:m.length=8) (i:Nat) (hi:firstM m=some i) (V:World) (hV:gZ V)=>uF (q:=q-1) (yR m hml hm.bytes i (by rw[vg hm];exact hi) V hV));obtain⟨L,hL⟩:∃L,L=dw 0 (l.map eZ):=⟨_,rfl⟩;have hm0:=rH l
 have hl0:(l.map eZ).length=8:=by simpa using hl
 have hL8:L.length≤8:=by rw[hL];have:=CZ (l.map eZ) 0;omega
 rw[←hL];have HL:=qd hL;clear hL hl hb;refine callsIn_of_wp Tryz.func216 rfl trivial ?_ rfl;simp only[Tryz.ntmps216,List.size_toArray,List.length_cons,List.length_nil,Nat.reduceAdd,Nat.reduceSub,Array.replicate_succ,Array.replicate_zero,List.push_toArray,List.append_toArray,List.nil_append,List.cons_append]
 gi_wp2_with (refine⟨trivial, ?_⟩;gi_at_call 214;refine(HH.out _).mono ?_;rintro e w' ⟨rfl,rfl⟩)
 gi_loopw [3] (fun v wr=>∃(m:List Nat) (pre:List Nat),Marks m∧m.length=8∧v= .int .u64 ((w8 m:Nat):Int)∧Hid (pre++dw 0 m=L)∧J pre wr∧gZ wr) (fun v _=>(intOf v).toNat)
 case atStart=>exact⟨_,[],hm0,hl0,rfl,qd HL.out.symm,h0,mM⟩
 case round=>
  obtain⟨m,pre,hm,hml,rfl,HP,hJ,hTr⟩:=hrel;have Vo:=qd hTr;clear hTr;by_cases hz:w8 m=0
  ·have hz':(((w8 m:Nat):Int) !=0)=false:=by rw[hz];rfl
   have hn:=(pY hm).1 hz;have hp:=HP.out;rw[Hg 0 hn,List.append_nil]at hp;have Td:=qd hp;clear hz hn hp
   gi_wp2
   go_end0;exact⟨⟨_,rfl⟩,.inl ⟨_,Td.out,hJ⟩⟩
  ·have hz':(((w8 m:Nat):Int) !=0)=true:=by rw[bne_iff_ne];omega
   obtain⟨i,hi⟩:=Qh hm hz;have hp:=HP.out;rw[Hf 0 hi,Nat.zero_add]at hp
   have hlen:pre.length<8:=by have:=congrArg List.length hp;simp at this;omega
   have hdv:=X9 hm hml hz;have hdl:=Q8 hm hz;have Td:=qd hp;have HD:=qd hdv;have Kq:=qd (HF.out m hm hml i hi wr Vo.out);have Hi:=qd hi;obtain⟨fn,tmps,assign,body,hy,Fu⟩:=hY pre i wr (by have:=Gc hi;omega) hJ hlen;simp only[Ah]at hy Fu;clear hp hi hdv hz
   gi_wp2_with (refine⟨trivial, ?_⟩;gi_at_call 182;refine Kq.out.mono ?_;rintro e w' ⟨rfl,rfl⟩)
   refine Fu.mono ?_;rintro e W3 (⟨rfl,hJ3,hk3⟩|⟨rfl,hJx3⟩)
   ·gi_wp2
    rw[HD.out];go_roundw
    case rel=>exact⟨mU m,pre++[i],He hm,by rw[CY];exact hml,rfl,qd (by rw[List.append_assoc];exact Td.out),hJ3,hT _ _ hk3 Vo.out⟩
    case measure=>simp[intOf];omega
   ·gi_wp2
    refine bodyPost_ret (results_none rfl _ _ _) rfl ?_;exact⟨⟨_,rfl⟩,.inr ⟨_,⟨dw 0 (mU m),by rw[List.append_assoc];exact Td.out⟩,hJx3⟩⟩
theorem Ih (l:List Nat)(w:World):Calls Tryz.prog 184 #[.int .u64 ((w8 l:Nat):Int)] w fun e w'=>e= .returned (.func (.func 216) #[] #[.pointer (some ⟨w.heap.size,0,none⟩)])∧w.alloc (.cells #[.int .u64 ((w8 l:Nat):Int)] 35)=w':=by
 go_in;go_wp2;go_ret;exact⟨rfl,rfl⟩
theorem abg (hn:Pw n){a:Nat}(ha:a<128):bits .and .i64 (a:Int) ((n:Int)-1)=((a % n:Nat):Int):=by
 have H:∀n∈([1,2,4,8,16,32,64]:List Nat),∀a:Fin 128,bits .and .i64 (a.val:Int) ((n:Int)-1)=((a.val % n:Nat):Int):=by decide+kernel
 have hm:n∈([1,2,4,8,16,32,64]:List Nat):=by unfold Pw at hn;simp;omega
 exact H n hm ⟨a,ha⟩
def Dj (h n j:Nat):Nat:=(h+(Hr j-j)) % n
theorem NK (j:Nat):Hr (j+1)=Hr j+(j+1):=by
 unfold Hr
 have:(j+1)*(j+1+1)=j*(j+1)+2*(j+1):=by rw[Nat.mul_add (j+1) (j+1) 1,Nat.add_mul,Nat.mul_comm j (j+1)];omega
 rw[this];omega
theorem acg (j:Nat):j≤Hr j:=by
 cases j with
 |zero=>exact Nat.zero_le _
 |succ j=>rw[NK];omega
theorem Yr (h n j:Nat):(Dj h n j+j) % n=bZ h n j:=by
 unfold Dj bZ;rw[Nat.mod_add_mod];have:=acg j;congr 1;omega
theorem Yt (h n j:Nat):Dj h n (j+1)=bZ h n j:=by
 unfold Dj bZ;rw[NK,Nat.add_sub_cancel]
theorem Yu (h n:Nat):Dj h n 0=h % n:=by simp[Dj,Hr]
theorem Dk (h n j:Nat)(hj:j≤n):(walk h n).take j=(List.range j).map (bZ h n):=by
 unfold walk;rw[←List.map_take,List.take_range,Nat.min_eq_left hj]
theorem Yv (q:Nat)(hq:1≤q)(lp Bg Bh:Nat)(h n:Nat)(h64:h<18446744073709551616)(hn:Pw n)(Kp:World→World→Prop)(hKr:∀W,Kp W W)(hKt:∀{A B C:World},Kp A B→Kp B C→Kp A C)(hKc:∀(W W':World) (v:Value),Kp W W'→W.cell? ⟨Bg,0,none⟩=some v→W'.cell? ⟨Bg,0,none⟩=some v)(J Jx:List Nat→World→Prop)(hY:∀pre x W,x<n→J pre W→pre.length<64→YieldAt Fence.wide (q-1) Tryz.prog lp (Ah x) W fun e W'=>
   (e= .returned (.bool true)∧J (pre++[x]) W'∧Kp W W')∨(e= .returned (.bool false)∧Jx (pre++[x]) W')) (W:World) (hcg:W.cell? ⟨Bg,0,none⟩=some (.int .i64 (n:Int))) (hch:W.cell? ⟨Bh,0,none⟩=some (.int .u64 (h:Int))) (h0:J [] W):
  CallsIn Fence.wide q Tryz.prog 180 #[.func (.yield lp) #[] #[],.pointer (some ⟨Bg,0,none⟩),.pointer (some ⟨Bh,0,none⟩)] W fun e W'=>(∃v,e= .returned v)∧
   ((∃ys,ys=walk h n∧J ys W')∨(∃pre,(∃j,j≤n∧pre=(walk h n).take j)∧Jx pre W')):=by
 have HR:=qd (fun V=>uF (q:=q-1) (Qj n hn V));have HH:=qd (fun V=>uF (q:=q-1) (SQ h n h64 hn V));have HA:=qd (fun(a:Nat) (ha:a<128)=>abg hn ha)
 have hn1:(1:Int)≤(n:Int):=by have:=hn.pos;omega
 have hn2:(n:Int)≤64:=by have:=hn.le;omega
 have hpos:=hn.pos;have HN:=qd hn;clear hn;refine callsIn_of_wp Tryz.func180 rfl trivial ?_ rfl;simp only[Tryz.ntmps180,List.size_toArray,List.length_cons,List.length_nil,Nat.reduceAdd,Nat.reduceSub,Array.replicate_succ,Array.replicate_zero,List.push_toArray,List.append_toArray,List.nil_append,List.cons_append]
 gi_wp2_with (first
  |(refine⟨trivial, ?_⟩;gi_at_call 175;refine(HR.out _).mono ?_;rintro e w' ⟨rfl,rfl⟩)
  |(refine⟨trivial, ?_⟩;gi_at_call 181;refine(HH.out _).mono ?_;rintro e w' ⟨rfl,rfl⟩))
 gi_loopw [4,5,13] (fun a _ i wr=>∃j:Nat,j≤n∧i= .int .i64 (j:Int)∧a= .int .i64 ((Dj h n j:Nat):Int)∧J ((walk h n).take j) wr∧Kp W wr) (fun _ _ i _=>n-(intOf i).toNat)
 case atStart=>exact⟨0,Nat.zero_le _,rfl,congrArg (Value.int .i64) (by rw[Yu];omega),h0,hKr _⟩
 case round=>
  obtain⟨j,hj,rfl,rfl,hJ,hK⟩:=hrel;by_cases hlt:j<n
  ·have hlt':(j:Int)<(n:Int):=by omega
   have afC:=hKc _ _ _ hK hcg;have ha0:Dj h n j<n:=Nat.mod_lt _ hpos;have hv:=HA.out (Dj h n j+j) (by have:=HN.out.le;omega);rw[Yr]at hv
   have hv2:bits .and .i64 (((Dj h n j:Nat):Int)+(j:Int)) ((n:Int)-1)=((bZ h n j:Nat):Int):=by rw[←hv];congr 1
   have hnx:=Yt h n j
   have htk:(walk h n).take (j+1)=(walk h n).take j++[bZ h n j]:=by
    rw[Dk _ _ _ hlt,Dk _ _ _ hj,List.range_succ,List.map_append];rfl
   have hlen:((walk h n).take j).length<64:=by rw[Dk _ _ _ hj];simp;have:=HN.out.le;omega
   obtain⟨fn,tmps,assign,body,hy,Fu⟩:=hY _ (bZ h n j) wr (Nat.mod_lt _ hpos) hJ hlen;simp only[Ah]at hy Fu;generalize bZ h n j=x at*;generalize Dj h n j=b at*;have HT:=qd htk;have HX:=qd hnx
   have hb0:(0:Int)≤(b:Int):=by omega
   have hb1:(b:Int)<64:=by omega
   clear hv htk hnx
   gi_wp2
   refine Fu.mono ?_;rintro e W3 (⟨rfl,hJ3,hk3⟩|⟨rfl,hJx3⟩)
   ·gi_wp2
    go_roundw
    case rel=>exact⟨j+1,by omega,by go_num,by rw[HX.out],by rw[HT.out];exact hJ3,hKt hK hk3⟩
    case measure=>simp[intOf];omega
   ·gi_wp2
    refine bodyPost_ret (results_none rfl _ _ _) rfl ?_;exact⟨⟨_,rfl⟩,.inr ⟨_,⟨j+1,by omega,HT.out.symm⟩,hJx3⟩⟩
  ·obtain rfl:j=n:=by omega
   have hlt':¬(j:Int)<(j:Int):=by omega
   have hw:(walk h j).take j=walk h j:=List.take_of_length_le (by simp[walk]);rw[hw]at hJ;clear hw
   gi_wp2
   go_end0
   first|exact⟨⟨_,rfl⟩,.inl ⟨_,rfl,hJ⟩⟩|exact⟨⟨_,rfl⟩,.inl hJ⟩
theorem Te (h n:Nat)(w:World):Calls Tryz.prog 135 #[.int .u64 (h:Int),.int .i64 (n:Int)] w fun e w'=>e= .returned (.func (.func 180) #[] #[.pointer (some ⟨w.heap.size+1,0,none⟩),.pointer (some ⟨w.heap.size,0,none⟩)])∧(w.alloc (.cells #[.int .u64 (h:Int)] 35)).alloc (.cells #[.int .i64 (n:Int)] 3)=w':=by
 go_in;go_wp2;go_ret;exact⟨rfl,rfl⟩
abbrev NM {n:Nat}(x:Fin n):Array Value:=Ah x.val
def Bv {n:Nat}(J:List (Fin n)→World→Prop)(pre:List Nat)(W:World):Prop:=∃p:List (Fin n),p.map Fin.val=pre∧J p W
theorem Fv {N:Nat}{F:Fence}{m l:Nat}{J Jx:List (Fin n)→World→Prop}{Kp:World→World→Prop}(hY:∀pre x W1,J pre W1→pre.length<N→YieldAt F m P l (NM x) W1 fun e W'=>(e= .returned (.bool true)∧J (pre++[x]) W'∧Kp W1 W')∨(e= .returned (.bool false)∧Jx (pre++[x]) W')):
  ∀pre x W1,x<n→Bv J pre W1→pre.length<N→YieldAt F m P l (Ah x) W1 fun e W'=>(e= .returned (.bool true)∧Bv J (pre++[x]) W'∧Kp W1 W')∨(e= .returned (.bool false)∧Bv Jx (pre++[x]) W'):=by
 rintro pre x W1 hx ⟨p,rfl,hJ⟩ hlen;obtain⟨fn,tmps,assign,body,hy,Fu⟩:=hY p ⟨x,hx⟩ W1 hJ (by simpa using hlen);refine⟨fn,tmps,assign,body,hy,Fu.mono fun e W' he=> ?_⟩;rcases he with⟨h1,h2,h3⟩|⟨h1,h2⟩
 ·exact .inl ⟨h1,⟨_,by simp,h2⟩,h3⟩
 ·exact .inr ⟨h1,⟨_,by simp,h2⟩⟩
theorem Fw (q:Nat)(hq:1≤q)(Bs n₀:Nat)(S:List Nat)(l:List Nat)(hl:l.length=8)(hb:Bytes l)(w:World)(hg:13 <n₀)(hs:13 ∉S)(hn₀:n₀≤w.heap.size)(hBs:Bs<w.heap.size)(hc:w.cell? ⟨Bs,0,none⟩=some (.int .u64 ((w8 l:Nat):Int)))(hT:gZ w):
  SeqStopsK (α:=Fin 8) Fence.wide q Tryz.prog 216 #[.pointer (some ⟨Bs,0,none⟩)] NM (aV n₀ S) (fun ys=>ys.map Fin.val=dw 0 (l.map eZ)) (fun pre=>∃r,pre.map Fin.val++r=dw 0 (l.map eZ)) 8 w:=fun lp J Jx W hW _ _ hY h0=>
 (Vn q hq lp Bs l hl hb (aV n₀ S) (fun _ _ h=>h.tz hg hs) (Bv J) (Bv Jx) (Fv hY) W ((hW.cell (p:=⟨Bs,0,none⟩) hBs).trans hc) (fun i hi=>(hW.cell (p:=⟨13,p8 i,none⟩) (Nat.lt_of_lt_of_le hg hn₀)).trans (hT i hi)) ⟨[],rfl,h0⟩).mono fun e W' he=>by
  obtain⟨hv,⟨ys,hys,p,hp,hJ⟩|⟨pre,⟨r,hr⟩,p,hp,hJ⟩⟩:=he
  ·exact⟨hv,.inl ⟨p,hp.trans hys,hJ⟩⟩
  ·exact⟨hv,.inr ⟨p,⟨r,by rw[hp];exact hr⟩,hJ⟩⟩
theorem Tf (q:Nat)(hq:1≤q)(Bg Bh n₀:Nat)(S:List Nat)(h n:Nat)(h64:h<18446744073709551616)(hn:Pw n)(w:World)(hBg:Bg<n₀)(hgs:Bg∉S)(Ct:Bh<w.heap.size)(hn₀:n₀≤w.heap.size)(hcg:w.cell? ⟨Bg,0,none⟩=some (.int .i64 (n:Int)))(hch:w.cell? ⟨Bh,0,none⟩=some (.int .u64 (h:Int))):
  SeqStopsK (α:=Fin n) Fence.wide q Tryz.prog 180 #[.pointer (some ⟨Bg,0,none⟩),.pointer (some ⟨Bh,0,none⟩)] NM (aV n₀ S) (fun ys=>ys.map Fin.val=walk h n) (fun pre=>∃j,j≤n∧pre.map Fin.val=(walk h n).take j) 64 w:=fun lp J Jx W hW _ _ hY h0=>
 (Yv q hq lp Bg Bh h n h64 hn (aV n₀ S) (aV.refl _ _) dW (fun _ _ _ hk hc=>(hk.cell (p:=⟨Bg,0,none⟩) hBg hgs).trans hc) (Bv J) (Bv Jx) (Fv hY) W ((hW.cell (p:=⟨Bg,0,none⟩) (Nat.lt_of_lt_of_le hBg hn₀)).trans hcg) ((hW.cell (p:=⟨Bh,0,none⟩) Ct).trans hch) ⟨[],rfl,h0⟩).mono fun e W' he=>by
  obtain⟨hv,⟨ys,hys,p,hp,hJ⟩|⟨pre,⟨j,hj,hr⟩,p,hp,hJ⟩⟩:=he
  ·exact⟨hv,.inl ⟨p,hp.trans hys,hJ⟩⟩
  ·exact⟨hv,.inr ⟨p,⟨j,hj,hp.trans hr⟩,hJ⟩⟩
end
end Go.Proofs.YtbfpfgfgfjhpfaaGreatDoor
