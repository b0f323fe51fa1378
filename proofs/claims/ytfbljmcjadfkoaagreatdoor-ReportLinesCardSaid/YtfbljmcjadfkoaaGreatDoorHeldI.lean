/- A view's functions that write, by their contracts. -/
import Derived.Test.YtfbljmcjadfkoaaGreatDoorCoH
import Derived.Test.YtfbljmcjadfkoaaGreatDoorSqM
import Derived.Test.YtfbljmcjadfkoaaGreatDoorSqT
import Derived.Test.YtfbljmcjadfkoaaGreatDoorSq
import Derived.Deep.MidRow
import Derived.RangeFuncNested
import Derived.RangeFuncBound
import Derived.RangeFuncCalls
import Derived.RangeFuncLeaves
import Derived.RangeFuncBox
import Derived.Shelf.Abstract
import Derived.Shelf.RegionOpen
import Derived.WalkKit
import Derived.OwnWalkIn
import Derived.TacticsInMore
import Derived.LoopNIn
import Derived.LoopIn
import Derived.OrdersIn
import Derived.ControlIn
namespace Go.Proofs.YtfbljmcjadfkoaaGreatDoor
set_option maxRecDepth 100000
set_option maxHeartbeats 2000000
open Go.RowKit AmC Go.Shelf Go
theorem GRaw.drew {w:World}{gb go:Nat}{t:TypeId}{pre post:List Value}{l:List Nat}{es:List Ent}(h:GRaw w gb t pre post go l es):GRaw w.drew gb t pre post go l es:=⟨h.len,h.l8,h.bytes,h.e8,h.blk.drew⟩
theorem view_Put (gb:Nat)(t:TypeId)(pre post:List Value)(go:Nat)(l:List Nat)(es:List Ent)(i:Nat)(hi:i<8)(e:Ent)(h64:e.hash<18446744073709551616)(w:World)(h:GRaw w gb t pre post go l es)(hm:¬l.getD i 0<128):
  Calls Tryz.prog 209 #[viewV ⟨gb,go,none⟩,.int .i64 (i:Int),entV e] w fun x w'=>x= .returned (.tuple #[.bool (l.getD i 0==254),.nilIface])∧GRaw w' gb t pre post go (l.set i (e.hash % 128)) (es.set i e)∧Mod [gb] w w':=by
 obtain⟨W,hW,hB,hV,hE⟩:=qX2 w 235 #[.pointer (some ⟨gb,go,none⟩)] 199 #[.int .u64 (e.key:Int),.int .u64 (e.val:Int),.int .u64 (e.hash:Int)];have hG:=h.below hB;have hlt:=h.lt;have HF:=qd (view_full_ok gb t pre post go l es i hi false W hG (decide_eq_false hm));have HGt:=qd (ctrl_Get l h.bytes i hi);have H2:=qd (split_H2 e.hash h64);have HM:=qd (fun(u:World) (hu:GRaw u gb t pre post go l (es.set i e))=>view_mark gb t pre post go l (es.set i e) i (e.hash % 128) hi (by omega) (.inl (by omega)) u hu)
 have hi8:(i:Int)<8:=by omega
 have hi0:(0:Int)≤(i:Int):=by omega
 have HO:∀b:Nat,(((b:Nat):Int)==254)=(b==254):=fun b=>by rw[Bool.eq_iff_iff,beq_iff_eq,beq_iff_eq];omega
 have HO1:=qd (HO (l.getD i 0));have HW:=qd hW;have HB:=qd hB
 have hne:gb≠w.heap.size:=by omega
 have hne1:gb≠w.heap.size+1:=by omega
 unfold viewV at HF HM⊢;unfold entV;clear hW h hB hm HO;generalize(l.getD i 0==254)=o at*;generalize l.getD i 0=b at*;go_in;go_upto_region 1 with fail;rw[←HW.out];have v0:=hV.cell 0;simp only[List.getElem?_toArray,List.getElem?_cons_zero]at v0;go_wp2_with fail;refine(HF.out).mono ?_;rintro e w1 ⟨rfl,hb⟩;replace hG:=hG.below hb;have hE1:=hE.below hb hE.lt;replace v0:=cell_in hb v0;have hw:=hG.word;obtain⟨e0,e1,e2⟩:=hE1.c3;go_wp2_with fail;refine(HGt.out _).mono ?_;rintro e w2 ⟨rfl,rfl⟩;have ho:=HO1.out;go_upto_region 5 with fail;have s0:=hG.at_ i 0 hi (by omega);have s1:=hG.at_ i 1 hi (by omega);have s2:=hG.at_ i 2 hi (by omega);rw[Nat.add_zero]at s0;simp only[entCells,List.getElem?_cons_zero,List.getElem?_cons_succ]at s0 s1 s2;have g0:=hG.frz (go+1+i*3);have g1:=hG.frz (go+1+i*3+1);have g2:=hG.frz (go+1+i*3+2);refine rT (fun w'=>w'=World.drew w1) [7] ?_;have hHeld:(fun w'=>w'=World.drew w1) (World.drew w1):=rfl;refine vW 0 rfl ?_;refine vT 1 rfl ?_;refine vW 2 rfl ?_;refine vT 3 rfl ?_;refine vW 4 rfl ?_;refine vW 5 rfl ?_;refine vW 6 rfl ?_;refine nT 7 rfl fun K hK=> ?_;go_simp;refine kO hK ?_;clear hK K;refine doneT (by kernel_rfl) ?_ _;obtain⟨w2,hw2⟩:∃w2,w2=(((w1.setCell ⟨gb,go+1+i*3,none⟩ (.int .u64 (e.key:Int))).setCell ⟨gb,go+1+i*3+1,none⟩ (.int .u64 (e.val:Int))).setCell ⟨gb,go+1+i*3+2,none⟩ (.int .u64 (e.hash:Int))).drew:=⟨_,rfl⟩;rw[←hw2];have hG2:GRaw w2 gb t pre post go l (es.set i e):=hw2▸(hG.set_ent i hi e).drew
 have hV2:Blk w2 w.heap.size 235 #[.pointer (some ⟨gb,go,none⟩)]:=by
  rw[hw2];exact(((Blk.far (hV.below hb hV.lt) (p:=⟨gb,go+1+i*3,none⟩) (Ne.symm hne) _).far (p:=⟨gb,go+1+i*3+1,none⟩) (Ne.symm hne) _).far (p:=⟨gb,go+1+i*3+2,none⟩) (Ne.symm hne) _).drew
 have hE2:Blk w2 (w.heap.size+1) 199 #[.int .u64 (e.key:Int),.int .u64 (e.val:Int),.int .u64 (e.hash:Int)]:=by
  rw[hw2];exact(((hE1.far (p:=⟨gb,go+1+i*3,none⟩) (Ne.symm hne1) _).far (p:=⟨gb,go+1+i*3+1,none⟩) (Ne.symm hne1) _).far (p:=⟨gb,go+1+i*3+2,none⟩) (Ne.symm hne1) _).drew
 have hM2:Mod [gb] w w2:=by
  rw[hw2];exact((((((Mod.of_below HB.out [gb]).then (Mod.of_below hb [gb])).set_ (.inl (by simp)) _ _).set_ (.inl (by simp)) _ _).set_ (.inl (by simp)) _ _)).then (Mod.drewN [gb] _ 1)
 have HW2:=qd (And.intro hG2 hM2);clear hw2 hG2 hM2 v0 hw e0 e1 e2 s0 s1 s2 g0 g1 g2 hE1 hb hE hV hG;go_upto_region 6 with fail;have v0:=hV2.cell 0;have e2:=hE2.cell 2;simp only[gl]at v0 e2;refine rT (fun w'=>w'=World.drew w2) [5] ?_;have hHeld:(fun w'=>w'=World.drew w2) (World.drew w2):=rfl;refine vT 0 rfl ?_;refine vW 1 rfl ?_;refine vW 2 rfl ?_;refine vT 3 rfl ?_;refine nT 4 rfl fun K hK=> ?_;go_simp;refine(H2.out _).mono ?_;rintro e w1 ⟨rfl,rfl⟩;go_wp2_with fail;have hHeld:=show(fun w'=>w'=World.drew w2) _ from rfl;refine kO hK ?_;clear hK K;refine nT 5 rfl fun K hK=> ?_;go_simp;refine(HM.out _ HW2.out.1.drew).mono ?_;rintro e w3 ⟨rfl,hG3,hm3⟩;have HG3:=qd hG3;have HM3:=qd hm3;clear hG3 hm3;go_wp2_with fail;refine kO hK ?_;clear hK K;refine doneT (by kernel_rfl) ?_ _;go_wp2;refine bodyPost_ret (v:= .tuple #[.bool o,.nilIface]) (by simp[results,Tryz.results209,go_sem]) rfl ⟨rfl,HG3.out,(HW2.out.2.then (Mod.drewN [gb] _ 1)).then HM3.out⟩
theorem view_Erase_open (gb:Nat)(t:TypeId)(pre post:List Value)(go:Nat)(l:List Nat)(es:List Ent)(i:Nat)(hi:i<8)(w:World)(h:GRaw w gb t pre post go l es)(hm:l.getD i 0<128)(ho:l.any (·==128)=true):
  Calls Tryz.prog 289 #[viewV ⟨gb,go,none⟩,.int .i64 (i:Int)] w fun x w'=>x= .returned (.tuple #[.bool false,.nilIface])∧GRaw w' gb t pre post go (l.set i 128) (es.set i ⟨0,0,0⟩)∧Mod [gb] w w':=by
 have hB:=(Below.refl w.heap.size w).alloc (Nat.le_refl _) (.cells #[.pointer (some ⟨gb,go,none⟩)] 235);have hV:=Blk.new w 235 #[.pointer (some ⟨gb,go,none⟩)];obtain⟨W,hW⟩:∃W,W=w.alloc (.cells #[.pointer (some ⟨gb,go,none⟩)] 235):=⟨_,rfl⟩;rw[←hW]at hB hV;have hG:=h.below hB;have hlt:=h.lt;have HF:=qd (view_full_ok gb t pre post go l es i hi true W hG (decide_eq_true hm))
 have hi8:(i:Int)<8:=by omega
 have hi0:(0:Int)≤(i:Int):=by omega
 have hne:gb≠w.heap.size:=by omega
 have HW:=qd hW;have HB:=qd hB;unfold viewV at HF⊢;clear hW h hB hm;have HM:=qd (fun(u:World) (hu:GRaw u gb t pre post go l (es.set i ⟨0,0,0⟩))=>view_mark gb t pre post go l (es.set i ⟨0,0,0⟩) i 128 hi (by omega) (by omega) u hu);unfold viewV at HM;go_in;go_upto_region 1 with fail;rw[←HW.out];have v0:=hV.cell 0;simp only[List.getElem?_toArray,List.getElem?_cons_zero]at v0;go_wp2_with fail;refine(HF.out).mono ?_;rintro e w1 ⟨rfl,hb⟩;replace hG:=hG.below hb;replace hV:=hV.below hb hV.lt;replace v0:=cell_in hb v0;have HO:=qd (view_Open gb t pre post go l es w1 hG);rw[ho]at HO;unfold viewV at HO;go_wp2_with fail;refine(HO.out).mono ?_;rintro e w2 ⟨rfl,hb2⟩;replace hG:=hG.below hb2;replace hV:=hV.below hb2 hV.lt;replace v0:=cell_in hb2 v0;have s0:=hG.at_ i 0 hi (by omega);have s1:=hG.at_ i 1 hi (by omega);have s2:=hG.at_ i 2 hi (by omega);rw[Nat.add_zero]at s0;simp only[entCells,List.getElem?_cons_zero,List.getElem?_cons_succ]at s0 s1 s2;have g0:=hG.frz (go+1+i*3);have g1:=hG.frz (go+1+i*3+1);have g2:=hG.frz (go+1+i*3+2);go_upto_region 6 with fail;obtain⟨w3,hw3⟩:∃w3,w3=((w2.setCell ⟨gb,go+1+i*3,none⟩ (.int .u64 0)).setCell ⟨gb,go+1+i*3+1,none⟩ (.int .u64 0)).setCell ⟨gb,go+1+i*3+2,none⟩ (.int .u64 0):=⟨_,rfl⟩;rw[←hw3];have hG3:GRaw w3 gb t pre post go l (es.set i ⟨0,0,0⟩):=hw3▸(hG.set_ent i hi ⟨0,0,0⟩)
 have hV3:Blk w3 w.heap.size 235 #[.pointer (some ⟨gb,go,none⟩)]:=by
  rw[hw3];exact((hV.far (p:=⟨gb,go+1+i*3,none⟩) (Ne.symm hne) _).far (p:=⟨gb,go+1+i*3+1,none⟩) (Ne.symm hne) _).far (p:=⟨gb,go+1+i*3+2,none⟩) (Ne.symm hne) _
 have hM3:Mod [gb] w w3:=by
  rw[hw3];exact((((((Mod.of_below HB.out [gb]).then (Mod.of_below hb [gb])).then (Mod.of_below hb2 [gb])).set_ (.inl (by simp)) _ _).set_ (.inl (by simp)) _ _).set_ (.inl (by simp)) _ _)
 have HW3:=qd (And.intro hG3 hM3);clear hw3 hG3 hM3 v0 s0 s1 s2 g0 g1 g2 hb hb2 hV hG;have v0:=hV3.cell 0;simp only[List.getElem?_toArray,List.getElem?_cons_zero]at v0;go_wp2_with fail;refine(HM.out _ HW3.out.1).mono ?_;rintro e w4 ⟨rfl,hG4,hm4⟩;have HG4:=qd hG4;have HM4:=qd (HW3.out.2.then hm4);clear hG4 hm4;go_wp2;refine bodyPost_ret (v:= .tuple #[.bool false,.nilIface]) (by simp[results,Tryz.results289,go_sem]) rfl ⟨rfl,HG4.out,HM4.out⟩
theorem view_Erase_shut (gb:Nat)(t:TypeId)(pre post:List Value)(go:Nat)(l:List Nat)(es:List Ent)(i:Nat)(hi:i<8)(w:World)(h:GRaw w gb t pre post go l es)(hm:l.getD i 0<128)(ho:l.any (·==128)=false):
  Calls Tryz.prog 289 #[viewV ⟨gb,go,none⟩,.int .i64 (i:Int)] w fun x w'=>x= .returned (.tuple #[.bool true,.nilIface])∧GRaw w' gb t pre post go (l.set i 254) (es.set i ⟨0,0,0⟩)∧Mod [gb] w w':=by
 have hB:=(Below.refl w.heap.size w).alloc (Nat.le_refl _) (.cells #[.pointer (some ⟨gb,go,none⟩)] 235);have hV:=Blk.new w 235 #[.pointer (some ⟨gb,go,none⟩)];obtain⟨W,hW⟩:∃W,W=w.alloc (.cells #[.pointer (some ⟨gb,go,none⟩)] 235):=⟨_,rfl⟩;rw[←hW]at hB hV;have hG:=h.below hB;have hlt:=h.lt;have HF:=qd (view_full_ok gb t pre post go l es i hi true W hG (decide_eq_true hm))
 have hi8:(i:Int)<8:=by omega
 have hi0:(0:Int)≤(i:Int):=by omega
 have hne:gb≠w.heap.size:=by omega
 have HW:=qd hW;have HB:=qd hB;unfold viewV at HF⊢;clear hW h hB hm;have HM:=qd (fun(u:World) (hu:GRaw u gb t pre post go l (es.set i ⟨0,0,0⟩))=>view_mark gb t pre post go l (es.set i ⟨0,0,0⟩) i 254 hi (by omega) (by omega) u hu);unfold viewV at HM;go_in;go_upto_region 1 with fail;rw[←HW.out];have v0:=hV.cell 0;simp only[List.getElem?_toArray,List.getElem?_cons_zero]at v0;go_wp2_with fail;refine(HF.out).mono ?_;rintro e w1 ⟨rfl,hb⟩;replace hG:=hG.below hb;replace hV:=hV.below hb hV.lt;replace v0:=cell_in hb v0;have HO:=qd (view_Open gb t pre post go l es w1 hG);rw[ho]at HO;unfold viewV at HO;go_wp2_with fail;refine(HO.out).mono ?_;rintro e w2 ⟨rfl,hb2⟩;replace hG:=hG.below hb2;replace hV:=hV.below hb2 hV.lt;replace v0:=cell_in hb2 v0;have s0:=hG.at_ i 0 hi (by omega);have s1:=hG.at_ i 1 hi (by omega);have s2:=hG.at_ i 2 hi (by omega);rw[Nat.add_zero]at s0;simp only[entCells,List.getElem?_cons_zero,List.getElem?_cons_succ]at s0 s1 s2;have g0:=hG.frz (go+1+i*3);have g1:=hG.frz (go+1+i*3+1);have g2:=hG.frz (go+1+i*3+2);go_upto_region 6 with fail;obtain⟨w3,hw3⟩:∃w3,w3=((w2.setCell ⟨gb,go+1+i*3,none⟩ (.int .u64 0)).setCell ⟨gb,go+1+i*3+1,none⟩ (.int .u64 0)).setCell ⟨gb,go+1+i*3+2,none⟩ (.int .u64 0):=⟨_,rfl⟩;rw[←hw3];have hG3:GRaw w3 gb t pre post go l (es.set i ⟨0,0,0⟩):=hw3▸(hG.set_ent i hi ⟨0,0,0⟩)
 have hV3:Blk w3 w.heap.size 235 #[.pointer (some ⟨gb,go,none⟩)]:=by
  rw[hw3];exact((hV.far (p:=⟨gb,go+1+i*3,none⟩) (Ne.symm hne) _).far (p:=⟨gb,go+1+i*3+1,none⟩) (Ne.symm hne) _).far (p:=⟨gb,go+1+i*3+2,none⟩) (Ne.symm hne) _
 have hM3:Mod [gb] w w3:=by
  rw[hw3];exact((((((Mod.of_below HB.out [gb]).then (Mod.of_below hb [gb])).then (Mod.of_below hb2 [gb])).set_ (.inl (by simp)) _ _).set_ (.inl (by simp)) _ _).set_ (.inl (by simp)) _ _)
 have HW3:=qd (And.intro hG3 hM3);clear hw3 hG3 hM3 v0 s0 s1 s2 g0 g1 g2 hb hb2 hV hG;have v0:=hV3.cell 0;simp only[List.getElem?_toArray,List.getElem?_cons_zero]at v0;go_wp2_with fail;refine(HM.out _ HW3.out.1).mono ?_;rintro e w4 ⟨rfl,hG4,hm4⟩;have HG4:=qd hG4;have HM4:=qd (HW3.out.2.then hm4);clear hG4 hm4;go_wp2;refine bodyPost_ret (v:= .tuple #[.bool true,.nilIface]) (by simp[results,Tryz.results289,go_sem]) rfl ⟨rfl,HG4.out,HM4.out⟩
theorem blk_sets {g:Nat}{t:TypeId}{post:List Value}:∀(vs x pre:List Value) (w:World),x.length=vs.length→Blk w g t (pre++(x++post)).toArray→Blk (w.setCells g pre.length vs) g t (pre++(vs++post)).toArray
 | [],x,pre,w,hl,h=>by
  have:x=[]:=List.length_eq_zero_iff.1 hl;subst this;exact h
 |v::vs,x,pre,w,hl,h=>by
  cases x with
  |nil=>simp at hl
  |cons y x=>
   have h1:=h.set_ (pre.length+0) v;rw[set_mid _ _ _ _ _ (by simp)]at h1;have h2:=blk_sets vs x (pre++[v]) _ (by simpa using hl) (by simpa using h1);simpa[World.setCells]using h2
theorem mod_sets {g:Nat}{S:List Nat}(hg:g∈S){w0:World}:∀(vs:List Value) (o:Nat) (w:World),Mod S w0 w→Mod S w0 (w.setCells g o vs)
 | [],_,_,h=>h
 |v::vs,o,_,h=>mod_sets hg vs (o+1) _ (h.set_ (.inl hg) o v)
theorem GRaw.ex {w:World}{gb go:Nat}{t:TypeId}{pre post:List Value}{l:List Nat}{es:List Ent}(h:GRaw w gb t pre post go l es)(j:Nat)(hj:j<25):∃v,w.cell? ⟨gb,go+j,none⟩=some v:=by
 have hl:j<(rawCells l es).length:=by rw[rawCells,List.length_cons,ents_length,h.e8];exact hj
 rw[h.blk.cell,List.getElem?_toArray,List.getElem?_append_right (by have:=h.len;omega),List.getElem?_append_left (by have:=h.len;omega)]
 have:go+j-pre.length=j:=by have:=h.len;omega
 rw[this];exact⟨_,List.getElem?_eq_getElem hl⟩
def newCells:List Value:=[.int .u64 ((rep8 128:Nat):Int),.int .u64 0,.int .u64 0,.int .u64 0,.int .u64 0,.int .u64 0,.int .u64 0,.int .u64 0,.int .u64 0,.int .u64 0,.int .u64 0,.int .u64 0,.int .u64 0,.int .u64 0,.int .u64 0,.int .u64 0,.int .u64 0,.int .u64 0,.int .u64 0,.int .u64 0,.int .u64 0,.int .u64 0,.int .u64 0,.int .u64 0,.int .u64 0]
theorem newCells_eq:newCells=rawCells (List.replicate 8 128) (List.replicate 8 ⟨0,0,0⟩):=by simp[newCells,rawCells,rep8,entCells,List.replicate]
theorem group_New (w:World):Calls Tryz.prog 196 #[] w fun e w'=>e= .returned (.pointer (some ⟨w.heap.size,0,none⟩))∧w.alloc (.cells newCells.toArray 239)=w':=by
 have H1:=qd (ctrl_New w);go_in;go_wp2_with fail;refine(H1.out).mono ?_;rintro e w1 ⟨rfl,rfl⟩;go_wp2;go_ret;exact⟨rfl,rfl⟩
theorem view_Clear (gb:Nat)(t:TypeId)(pre post:List Value)(go:Nat)(l:List Nat)(es:List Ent)(w:World)(h:GRaw w gb t pre post go l es):
  Calls Tryz.prog 158 #[viewV ⟨gb,go,none⟩] w fun x w'=>x= .returned undef∧GRaw w' gb t pre post go (List.replicate 8 128) (List.replicate 8 ⟨0,0,0⟩)∧Mod [gb] w w':=by
 have hB:=(Below.refl w.heap.size w).alloc (Nat.le_refl _) (.cells #[.pointer (some ⟨gb,go,none⟩)] 235);have hV:=Blk.new w 235 #[.pointer (some ⟨gb,go,none⟩)];obtain⟨W,hW⟩:∃W,W=w.alloc (.cells #[.pointer (some ⟨gb,go,none⟩)] 235):=⟨_,rfl⟩;rw[←hW]at hB hV;have hG:=h.below hB;have HW:=qd hW;have HB:=qd hB;unfold viewV;clear hW h hB;go_in;go_upto_region 1 with fail;rw[←HW.out];have v0:=hV.cell 0;simp only[List.getElem?_toArray,List.getElem?_cons_zero]at v0;refine rT (fun(w':World)=>w'.cell? ⟨w.heap.size,0,none⟩=some (.pointer (some ⟨gb,go,none⟩))) [6] ?_;have hHeld:=v0;refine vW 0 rfl ?_;refine vT 1 rfl ?_;refine nT 2 rfl fun K hK=> ?_;go_simp;refine(group_New _).mono ?_;rintro e w1 ⟨rfl,hN⟩;have hb1:Below W.heap.size W w1:=hN▸((Below.refl W.heap.size W).drew).alloc (Nat.le_refl _) _;have hN1:Blk w1 W.heap.size 239 newCells.toArray:=hN▸Blk.new W.drew _ _;clear hN;go_wp2_with fail;replace v0:=cell_in hb1 v0
 have hL:w1.rangeAt W.heap.size 0 newCells:=fun j v hv=>by rw[hN1.cell,Nat.zero_add,List.getElem?_toArray];exact hv
 have hG1:=hG.below hb1;have hS:w1.there gb go newCells.toArray.size:=fun j hj=>⟨by obtain⟨v,hv⟩:=hG1.ex j hj;rw[hv];rfl,hG1.frz _⟩;have hHeld:=v0;refine kO hK ?_;clear hK K;refine nT 3 rfl fun K hK=> ?_;go_simp;refine kO hK ?_;clear hK K;refine nT 4 rfl fun K hK=> ?_;rw[if_pos (by rfl)];refine wp_load_mid 239 (.tmp 5) rfl W.heap.size 0 rfl newCells _ hL Tryz.underlying239 rfl (by kernel_rfl) ?_;refine kO hK ?_;clear hK K;refine vW 5 rfl ?_;refine nT 6 rfl fun K hK=> ?_;rw[if_pos (by rfl)];refine wp_store_mid 239 (.tmp 7) (.tmp 6) rfl gb go newCells.toArray rfl rfl hS (by kernel_rfl) (by simp[newCells];exact⟨rfl,rfl⟩) ?_;refine kO hK ?_;clear hK K;refine doneT (by kernel_rfl) ?_ _;have hM2:Mod [gb] w (w1.setCells gb go newCells):=mod_sets (by simp) _ _ _ (Mod.of_below (below_nx hb1 HB.out) [gb])
 have hG2:GRaw (w1.setCells gb go newCells) gb t pre post go (List.replicate 8 128) (List.replicate 8 ⟨0,0,0⟩):=
  ⟨hG.len,by simp,bytes_rep (by omega),by simp,by have:=blk_sets newCells (rawCells l es) pre w1 (by rw[rawCells,List.length_cons,ents_length,hG.e8];rfl) (hG.below hb1).blk;rw[hG.len,newCells_eq]at this;rw[newCells_eq];exact this⟩
 have HP:=qd (And.intro hG2 hM2);clear hG2 hM2;go_wp2;go_end0;exact⟨rfl,HP.out.1,HP.out.2⟩
section
variable {n n₀ : Nat} {S : List Nat} {A w w' : World} {P : Program}
attribute [local go_sem] Oper.semAt_some
structure KeepS (n₀:Nat)(S:List Nat)(A B:World):Prop where
 os:B.os=A.os
 tape:B.tape=A.tape
 output:B.output=A.output
 size:A.heap.size≤B.heap.size
 block:∀k,k<n₀→k∉S→B.heap[k]?=A.heap[k]?
theorem KeepS.refl (n₀:Nat)(S:List Nat)(w:World):KeepS n₀ S w w:=⟨rfl,rfl,rfl,Nat.le_refl _,fun _ _ _=>rfl⟩
theorem KeepS.drew (n₀:Nat)(S:List Nat)(w:World):KeepS n₀ S w w.drew:=⟨rfl,rfl,rfl,Nat.le_refl _,fun _ _ _=>rfl⟩
theorem keepS_t {B C:World}(h:KeepS n₀ S A B)(k:KeepS n₀ S B C):KeepS n₀ S A C:=
 ⟨k.os.trans h.os,k.tape.trans h.tape,k.output.trans h.output,Nat.le_trans h.size k.size,fun i hi hs=>(k.block i hi hs).trans (h.block i hi hs)⟩
theorem Mod.keepS {B:World}(h:Mod S A B)(hn:n₀≤A.heap.size):KeepS n₀ S A B:=
 ⟨h.os,h.tape,h.output,h.size,fun k hk hs=>h.block k (Nat.lt_of_lt_of_le hk hn) hs⟩
theorem KeepS.of_below {B:World}(h:Below n₀ A B):KeepS n₀ S A B:=⟨h.os,h.tape,h.output,h.size,fun k hk _=>h.block k hk⟩
theorem KeepS.set_ (h:KeepS n₀ S w w'){b:Nat}(hb:b∈S∨n₀≤b)(o:Nat)(u:Value):KeepS n₀ S w (w'.setCell ⟨b,o,none⟩ u):=
 ⟨h.os,h.tape,h.output,by simpa using h.size,fun k hk hn=>by
  have hne:k≠b:=by rintro rfl;rcases hb with hb|hb;exact hn hb;omega
  exact(Below.heap_setCell w' ⟨b,o,none⟩ u k hne).trans (h.block k hk hn)⟩
theorem keepS_b (hn:n₀≤w.heap.size)(W:World)(l:Nat)(o o':Obj)(hl:w.heap.size≤l)(_:W.heap[l]?=some o)(_:o.isCells=false)(_:o.isWalk=false):KeepS n₀ S W (W.putObj l o'):=
 ⟨rfl,rfl,rfl,by simp,fun k hk _=>World.putObj_heap_other (by omega)⟩
theorem KeepS.grown {a:World}{row:Option Nat}(h:KeepS n₀ S a w)(hg:w.grownBy w' row)(hn:n₀≤w.heap.size)(hr:∀k,row=some k→n₀≤k):KeepS n₀ S a w':=
 keepS_t h ⟨hg.os,hg.tape,hg.output,hg.size,fun k hk _=>hg.block k (by omega) (fun e=>by have:=hr k e.symm;omega)⟩
theorem ownFrom_keepS {β:Type}{B:Nat}{w₀:World}(hn:n₀≤w₀.heap.size)(hB:n₀≤B):OwnFrom B (fun(_:β) W=>KeepS n₀ S w₀ W):=
 fun _ _ _ _ hs hg hr=>hs.grown hg (Nat.le_trans hn hs.size) (fun k e=>Nat.le_trans hB (hr k e).1)
theorem KeepS.cell {B:World}(h:KeepS n₀ S A B){p:Addr}(hp:p.block<n₀)(hs:p.block∉S):B.cell? p=A.cell? p:=World.cell?_of_block (w:=A) (h.block p.block hp hs)
theorem KeepS.mod {B:World}(h:KeepS A.heap.size S A B):Mod S A B:=⟨h.os,h.tape,h.output,h.size,fun k hk hs=>h.block k hk hs⟩
theorem KeepS.tz {B:World}(h:KeepS n₀ S A B)(hg:19 <n₀)(hs:19 ∉S)(hT:TzIn A):TzIn B:=fun i hi=>(h.cell (p:=⟨19,tzIdx i,none⟩) hg hs).trans (hT i hi)
theorem KeepS.blk {B:World}{g:Nat}{t:TypeId}{cs:Array Value}(h:KeepS n₀ S A B)(hb:Blk A g t cs)(hg:g<n₀)(hs:g∉S):Blk B g t cs:=(h.block g hg hs).trans hb
theorem wide_of {f:FuncId}{args:Array Value}{q:Nat}{R:Ending→World→Prop}(h:Calls P f args w R):CallsIn Fence.wide q P f args w R:=callsIn_wide.2 h
abbrev natEnc (x:Nat):Array Value:= #[.int .i64 (x:Int)]
theorem lanes1_in (q:Nat)(hq:1≤q)(lp Bs:Nat)(l:List Nat)(hl:l.length=8)(hb:Bytes l)(Kp:World→World→Prop)(hT:∀A B,Kp A B→TzIn A→TzIn B)(J Jx:List Nat→World→Prop)(hY:∀pre x W,x<8→J pre W→pre.length<8→YieldAt Fence.wide (q-1) Tryz.prog lp (natEnc x) W fun e W'=>
   (e= .returned (.bool true)∧J (pre++[x]) W'∧Kp W W')∨(e= .returned (.bool false)∧Jx (pre++[x]) W')) (W:World) (hc:W.cell? ⟨Bs,0,none⟩=some (.int .u64 ((w8 l:Nat):Int))) (hTW:TzIn W) (h0:J [] W):
  CallsIn Fence.wide q Tryz.prog 276 #[.func (.yield lp) #[] #[],.pointer (some ⟨Bs,0,none⟩)] W fun e W'=>(∃v,e= .returned v)∧
   ((∃ys,ys=lanesFrom 0 (l.map topB)∧J ys W')∨(∃pre,(∃r,pre++r=lanesFrom 0 (l.map topB))∧Jx pre W')):=by
 have HH:=qd (fun V=>wide_of (q:=q-1) (swar_High l hl hb V));have HF:=qd (fun(m:List Nat) (hm:Marks m) (hml:m.length=8) (i:Nat) (hi:firstM m=some i) (V:World) (hV:TzIn V)=>wide_of (q:=q-1) (swar_First_some m hml hm.bytes i (by rw[top_marks hm];exact hi) V hV));obtain⟨L,hL⟩:∃L,L=lanesFrom 0 (l.map topB):=⟨_,rfl⟩;have hm0:=marks_top l
 have hl0:(l.map topB).length=8:=by simpa using hl
 have hL8:L.length≤8:=by rw[hL];have:=lanes_length (l.map topB) 0;omega
 rw[←hL];have HL:=qd hL;clear hL hl hb;refine callsIn_of_wp Tryz.func276 rfl trivial ?_ rfl;simp only[Tryz.ntmps276,List.size_toArray,List.length_cons,List.length_nil,Nat.reduceAdd,Nat.reduceSub,Array.replicate_succ,Array.replicate_zero,List.push_toArray,List.append_toArray,List.nil_append,List.cons_append]
 gi_wp2_with (refine⟨trivial, ?_⟩;gi_at_call 275;refine(HH.out _).mono ?_;rintro e w' ⟨rfl,rfl⟩)
 gi_loopw [3] (fun v wr=>∃(m:List Nat) (pre:List Nat),Marks m∧m.length=8∧v= .int .u64 ((w8 m:Nat):Int)∧Hid (pre++lanesFrom 0 m=L)∧J pre wr∧TzIn wr) (fun v _=>(intOf v).toNat)
 case atStart=>exact⟨_,[],hm0,hl0,rfl,qd HL.out.symm,h0,hTW⟩
 case round=>
  obtain⟨m,pre,hm,hml,rfl,HP,hJ,hTr⟩:=hrel;have HTr:=qd hTr;clear hTr;by_cases hz:w8 m=0
  ·have hz':(((w8 m:Nat):Int) !=0)=false:=by rw[hz];rfl
   have hn:=(first_none hm).1 hz;have hp:=HP.out;rw[lanes_none 0 hn,List.append_nil]at hp;have HPre:=qd hp;clear hz hn hp
   gi_wp2
   go_end0;exact⟨⟨_,rfl⟩,.inl ⟨_,HPre.out,hJ⟩⟩
  ·have hz':(((w8 m:Nat):Int) !=0)=true:=by rw[bne_iff_ne];omega
   obtain⟨i,hi⟩:=first_of_ne hm hz;have hp:=HP.out;rw[lanes_some 0 hi,Nat.zero_add]at hp
   have hlen:pre.length<8:=by have:=congrArg List.length hp;simp at this;omega
   have hdv:=drop_val hm hml hz;have hdl:=drop_lt hm hz;have HPre:=qd hp;have HD:=qd hdv;have HFi:=qd (HF.out m hm hml i hi wr HTr.out);have Hi:=qd hi;obtain⟨fn,tmps,assign,body,hy,hRd⟩:=hY pre i wr (by have:=first_lt hi;omega) hJ hlen;simp only[natEnc]at hy hRd;clear hp hi hdv hz
   gi_wp2_with (refine⟨trivial, ?_⟩;gi_at_call 245;refine HFi.out.mono ?_;rintro e w' ⟨rfl,rfl⟩)
   refine hRd.mono ?_;rintro e W3 (⟨rfl,hJ3,hk3⟩|⟨rfl,hJx3⟩)
   ·gi_wp2
    rw[HD.out];go_roundw
    case rel=>exact⟨dropM m,pre++[i],marks_drop hm,by rw[dropM_length];exact hml,rfl,qd (by rw[List.append_assoc];exact HPre.out),hJ3,hT _ _ hk3 HTr.out⟩
    case measure=>simp[intOf];omega
   ·gi_wp2
    refine bodyPost_ret (results_none rfl _ _ _) rfl ?_;exact⟨⟨_,rfl⟩,.inr ⟨_,⟨lanesFrom 0 (dropM m),by rw[List.append_assoc];exact HPre.out⟩,hJx3⟩⟩
theorem swar_Lanes (l:List Nat)(w:World):Calls Tryz.prog 247 #[.int .u64 ((w8 l:Nat):Int)] w fun e w'=>e= .returned (.func (.func 276) #[] #[.pointer (some ⟨w.heap.size,0,none⟩)])∧w.alloc (.cells #[.int .u64 ((w8 l:Nat):Int)] 72)=w':=by
 go_in;go_wp2;go_ret;exact⟨rfl,rfl⟩
theorem and_i64 (hn:Pw n){a:Nat}(ha:a<128):bits .and .i64 (a:Int) ((n:Int)-1)=((a % n:Nat):Int):=by
 have H:∀n∈([1,2,4,8,16,32,64]:List Nat),∀a:Fin 128,bits .and .i64 (a.val:Int) ((n:Int)-1)=((a.val % n:Nat):Int):=by decide+kernel
 have hm:n∈([1,2,4,8,16,32,64]:List Nat):=by unfold Pw at hn;simp;omega
 exact H n hm ⟨a,ha⟩
def atB (h n j:Nat):Nat:=(h+(tri j-j)) % n
theorem tri_succ (j:Nat):tri (j+1)=tri j+(j+1):=by
 unfold tri
 have:(j+1)*(j+1+1)=j*(j+1)+2*(j+1):=by rw[Nat.mul_add (j+1) (j+1) 1,Nat.add_mul,Nat.mul_comm j (j+1)];omega
 rw[this];omega
theorem tri_ge (j:Nat):j≤tri j:=by
 cases j with
 |zero=>exact Nat.zero_le _
 |succ j=>rw[tri_succ];omega
theorem atB_step (h n j:Nat):(atB h n j+j) % n=walkAt h n j:=by
 unfold atB walkAt;rw[Nat.mod_add_mod];have:=tri_ge j;congr 1;omega
theorem atB_next (h n j:Nat):atB h n (j+1)=walkAt h n j:=by
 unfold atB walkAt;rw[tri_succ,Nat.add_sub_cancel]
theorem atB_zero (h n:Nat):atB h n 0=h % n:=by simp[atB,tri]
theorem walk_take (h n j:Nat)(hj:j≤n):(walk h n).take j=(List.range j).map (walkAt h n):=by
 unfold walk;rw[←List.map_take,List.take_range,Nat.min_eq_left hj]
theorem walk1_in (q:Nat)(hq:1≤q)(lp Bg Bh:Nat)(h n:Nat)(h64:h<18446744073709551616)(hn:Pw n)(Kp:World→World→Prop)(hKr:∀W,Kp W W)(hKt:∀{A B C:World},Kp A B→Kp B C→Kp A C)(hKc:∀(W W':World) (v:Value),Kp W W'→W.cell? ⟨Bg,0,none⟩=some v→W'.cell? ⟨Bg,0,none⟩=some v)(J Jx:List Nat→World→Prop)(hY:∀pre x W,x<n→J pre W→pre.length<64→YieldAt Fence.wide (q-1) Tryz.prog lp (natEnc x) W fun e W'=>
   (e= .returned (.bool true)∧J (pre++[x]) W'∧Kp W W')∨(e= .returned (.bool false)∧Jx (pre++[x]) W')) (W:World) (hcg:W.cell? ⟨Bg,0,none⟩=some (.int .i64 (n:Int))) (hch:W.cell? ⟨Bh,0,none⟩=some (.int .u64 (h:Int))) (h0:J [] W):
  CallsIn Fence.wide q Tryz.prog 243 #[.func (.yield lp) #[] #[],.pointer (some ⟨Bg,0,none⟩),.pointer (some ⟨Bh,0,none⟩)] W fun e W'=>(∃v,e= .returned v)∧
   ((∃ys,ys=walk h n∧J ys W')∨(∃pre,(∃j,j≤n∧pre=(walk h n).take j)∧Jx pre W')):=by
 have HR:=qd (fun V=>wide_of (q:=q-1) (probe_Right n hn V));have HH:=qd (fun V=>wide_of (q:=q-1) (probe_home h n h64 hn V));have HA:=qd (fun(a:Nat) (ha:a<128)=>and_i64 hn ha)
 have hn1:(1:Int)≤(n:Int):=by have:=hn.pos;omega
 have hn2:(n:Int)≤64:=by have:=hn.le;omega
 have hpos:=hn.pos;have HN:=qd hn;clear hn;refine callsIn_of_wp Tryz.func243 rfl trivial ?_ rfl;simp only[Tryz.ntmps243,List.size_toArray,List.length_cons,List.length_nil,Nat.reduceAdd,Nat.reduceSub,Array.replicate_succ,Array.replicate_zero,List.push_toArray,List.append_toArray,List.nil_append,List.cons_append]
 gi_wp2_with (first
  |(refine⟨trivial, ?_⟩;gi_at_call 194;refine(HR.out _).mono ?_;rintro e w' ⟨rfl,rfl⟩)
  |(refine⟨trivial, ?_⟩;gi_at_call 244;refine(HH.out _).mono ?_;rintro e w' ⟨rfl,rfl⟩))
 gi_loopw [4,5,13] (fun a _ i wr=>∃j:Nat,j≤n∧i= .int .i64 (j:Int)∧a= .int .i64 ((atB h n j:Nat):Int)∧J ((walk h n).take j) wr∧Kp W wr) (fun _ _ i _=>n-(intOf i).toNat)
 case atStart=>exact⟨0,Nat.zero_le _,rfl,congrArg (Value.int .i64) (by rw[atB_zero];omega),h0,hKr _⟩
 case round=>
  obtain⟨j,hj,rfl,rfl,hJ,hK⟩:=hrel;by_cases hlt:j<n
  ·have hlt':(j:Int)<(n:Int):=by omega
   have hcg1:=hKc _ _ _ hK hcg;have ha0:atB h n j<n:=Nat.mod_lt _ hpos;have hv:=HA.out (atB h n j+j) (by have:=HN.out.le;omega);rw[atB_step]at hv
   have hv2:bits .and .i64 (((atB h n j:Nat):Int)+(j:Int)) ((n:Int)-1)=((walkAt h n j:Nat):Int):=by rw[←hv];congr 1
   have hnx:=atB_next h n j
   have htk:(walk h n).take (j+1)=(walk h n).take j++[walkAt h n j]:=by
    rw[walk_take _ _ _ hlt,walk_take _ _ _ hj,List.range_succ,List.map_append];rfl
   have hlen:((walk h n).take j).length<64:=by rw[walk_take _ _ _ hj];simp;have:=HN.out.le;omega
   obtain⟨fn,tmps,assign,body,hy,hRd⟩:=hY _ (walkAt h n j) wr (Nat.mod_lt _ hpos) hJ hlen;simp only[natEnc]at hy hRd;generalize walkAt h n j=x at*;generalize atB h n j=b at*;have HT:=qd htk;have HX:=qd hnx
   have hb0:(0:Int)≤(b:Int):=by omega
   have hb1:(b:Int)<64:=by omega
   clear hv htk hnx
   gi_wp2
   refine hRd.mono ?_;rintro e W3 (⟨rfl,hJ3,hk3⟩|⟨rfl,hJx3⟩)
   ·gi_wp2
    go_roundw
    case rel=>exact⟨j+1,by omega,by go_num,by rw[HX.out],by rw[HT.out];exact hJ3,hKt hK hk3⟩
    case measure=>simp[intOf];omega
   ·gi_wp2
    refine bodyPost_ret (results_none rfl _ _ _) rfl ?_;exact⟨⟨_,rfl⟩,.inr ⟨_,⟨j+1,by omega,HT.out.symm⟩,hJx3⟩⟩
  ·obtain rfl:j=n:=by omega
   have hlt':¬(j:Int)<(j:Int):=by omega
   have hw:(walk h j).take j=walk h j:=List.take_of_length_le (by simp[walk]);rw[hw]at hJ;clear hw
   gi_wp2
   go_end0
   first|exact⟨⟨_,rfl⟩,.inl ⟨_,rfl,hJ⟩⟩|exact⟨⟨_,rfl⟩,.inl hJ⟩
theorem probe_Walk (h n:Nat)(w:World):Calls Tryz.prog 201 #[.int .u64 (h:Int),.int .i64 (n:Int)] w fun e w'=>e= .returned (.func (.func 243) #[] #[.pointer (some ⟨w.heap.size+1,0,none⟩),.pointer (some ⟨w.heap.size,0,none⟩)])∧(w.alloc (.cells #[.int .u64 (h:Int)] 72)).alloc (.cells #[.int .i64 (n:Int)] 3)=w':=by
 go_in;go_wp2;go_ret;exact⟨rfl,rfl⟩
abbrev finEnc {n:Nat}(x:Fin n):Array Value:=natEnc x.val
def OfFin {n:Nat}(J:List (Fin n)→World→Prop)(pre:List Nat)(W:World):Prop:=∃p:List (Fin n),p.map Fin.val=pre∧J p W
theorem yieldAt_fin {N:Nat}{F:Fence}{m l:Nat}{J Jx:List (Fin n)→World→Prop}{Kp:World→World→Prop}(hY:∀pre x W1,J pre W1→pre.length<N→YieldAt F m P l (finEnc x) W1 fun e W'=>(e= .returned (.bool true)∧J (pre++[x]) W'∧Kp W1 W')∨(e= .returned (.bool false)∧Jx (pre++[x]) W')):
  ∀pre x W1,x<n→OfFin J pre W1→pre.length<N→YieldAt F m P l (natEnc x) W1 fun e W'=>(e= .returned (.bool true)∧OfFin J (pre++[x]) W'∧Kp W1 W')∨(e= .returned (.bool false)∧OfFin Jx (pre++[x]) W'):=by
 rintro pre x W1 hx ⟨p,rfl,hJ⟩ hlen;obtain⟨fn,tmps,assign,body,hy,hRd⟩:=hY p ⟨x,hx⟩ W1 hJ (by simpa using hlen);refine⟨fn,tmps,assign,body,hy,hRd.mono fun e W' he=> ?_⟩;rcases he with⟨h1,h2,h3⟩|⟨h1,h2⟩
 ·exact .inl ⟨h1,⟨_,by simp,h2⟩,h3⟩
 ·exact .inr ⟨h1,⟨_,by simp,h2⟩⟩
theorem lanes_stops (q:Nat)(hq:1≤q)(Bs n₀:Nat)(S:List Nat)(l:List Nat)(hl:l.length=8)(hb:Bytes l)(w:World)(hg:19 <n₀)(hs:19 ∉S)(hn₀:n₀≤w.heap.size)(hBs:Bs<w.heap.size)(hc:w.cell? ⟨Bs,0,none⟩=some (.int .u64 ((w8 l:Nat):Int)))(hT:TzIn w):
  SeqStopsK (α:=Fin 8) Fence.wide q Tryz.prog 276 #[.pointer (some ⟨Bs,0,none⟩)] finEnc (KeepS n₀ S) (fun ys=>ys.map Fin.val=lanesFrom 0 (l.map topB)) (fun pre=>∃r,pre.map Fin.val++r=lanesFrom 0 (l.map topB)) 8 w:=fun lp J Jx W hW _ _ hY h0=>
 (lanes1_in q hq lp Bs l hl hb (KeepS n₀ S) (fun _ _ h=>h.tz hg hs) (OfFin J) (OfFin Jx) (yieldAt_fin hY) W ((hW.cell (p:=⟨Bs,0,none⟩) hBs).trans hc) (fun i hi=>(hW.cell (p:=⟨19,tzIdx i,none⟩) (Nat.lt_of_lt_of_le hg hn₀)).trans (hT i hi)) ⟨[],rfl,h0⟩).mono fun e W' he=>by
  obtain⟨hv,⟨ys,hys,p,hp,hJ⟩|⟨pre,⟨r,hr⟩,p,hp,hJ⟩⟩:=he
  ·exact⟨hv,.inl ⟨p,hp.trans hys,hJ⟩⟩
  ·exact⟨hv,.inr ⟨p,⟨r,by rw[hp];exact hr⟩,hJ⟩⟩
theorem walk_stops (q:Nat)(hq:1≤q)(Bg Bh n₀:Nat)(S:List Nat)(h n:Nat)(h64:h<18446744073709551616)(hn:Pw n)(w:World)(hBg:Bg<n₀)(hgs:Bg∉S)(hBh:Bh<w.heap.size)(hn₀:n₀≤w.heap.size)(hcg:w.cell? ⟨Bg,0,none⟩=some (.int .i64 (n:Int)))(hch:w.cell? ⟨Bh,0,none⟩=some (.int .u64 (h:Int))):
  SeqStopsK (α:=Fin n) Fence.wide q Tryz.prog 243 #[.pointer (some ⟨Bg,0,none⟩),.pointer (some ⟨Bh,0,none⟩)] finEnc (KeepS n₀ S) (fun ys=>ys.map Fin.val=walk h n) (fun pre=>∃j,j≤n∧pre.map Fin.val=(walk h n).take j) 64 w:=fun lp J Jx W hW _ _ hY h0=>
 (walk1_in q hq lp Bg Bh h n h64 hn (KeepS n₀ S) (KeepS.refl _ _) keepS_t (fun _ _ _ hk hc=>(hk.cell (p:=⟨Bg,0,none⟩) hBg hgs).trans hc) (OfFin J) (OfFin Jx) (yieldAt_fin hY) W ((hW.cell (p:=⟨Bg,0,none⟩) (Nat.lt_of_lt_of_le hBg hn₀)).trans hcg) ((hW.cell (p:=⟨Bh,0,none⟩) hBh).trans hch) ⟨[],rfl,h0⟩).mono fun e W' he=>by
  obtain⟨hv,⟨ys,hys,p,hp,hJ⟩|⟨pre,⟨j,hj,hr⟩,p,hp,hJ⟩⟩:=he
  ·exact⟨hv,.inl ⟨p,hp.trans hys,hJ⟩⟩
  ·exact⟨hv,.inr ⟨p,⟨j,hj,hp.trans hr⟩,hJ⟩⟩
end
section
variable {i l n : Nat} {a : Act} {w : World} {F : Fence} {c : Code}
section
variable {P : Program} {ops : Array Oper} {Q : Exit → Act → World → Prop} {md : Region.Mode} {S : World → Prop} {late : List Nat}
def noDefer (ops:Array Oper):Bool:=ops.all fun o=>match o.op with
 | .defer _=>false
 |_=>true
theorem noDefer_spec (h:noDefer ops=true)(i:Nat)(o:Oper)(hi:ops[i]?=some o)(c:Call):o.op≠ .defer c:=fun he=>by
 obtain⟨hlt,rfl⟩:=Array.getElem?_eq_some_iff.1 hi;have:=Array.all_eq_true.1 h i hlt;rw[he]at this;cases this
theorem wpOpIn_of {K K':Act→World→Prop}(hnd:noDefer ops=true)(hQ:¬LetsOut Q)(hK:∀a w,K a w→K' a w)(h:wpOp P ops Q i K a w):wpOpIn (Fence.wide.inRound l) n P ops Q i K' a w:=by
 unfold wpOp at h;unfold wpOpIn
 cases hi:ops[i]? with
 |none=>rw[hi]at h;exact hK _ _ h
 |some o=>
  rw[hi]at h;dsimp only at h⊢;split
  ·next hw=>
   rw[if_pos hw]at h;rcases h with h|⟨_,hl⟩
   ·refine⟨fun _ _=>trivial, ?_⟩;rw[Oper.semAt_eq _ _ _ (noDefer_spec hnd i o hi)];unfold Oper.wp at h;generalize(execOp a.eval o).run P w=r at*
    cases r with
    |ok x w'=>
     cases x<;>simp only[Oper.upon,Oper.uponIn]at h⊢
     case value u=>exact hK _ _ h
     case skip=>exact hK _ _ h
     case defer d=>exact hK _ _ h
     case enter f args=>
      refine⟨fun hd=>by simp[Fence.wide]at hd,CallsIn.inRound l ((callsIn_wide.2 h).mono fun e w'' he=> ?_)⟩
      cases e with
      |returned u=>exact hK _ _ he
      |panicked c=>exact he
      |outgrown=>exact he
     case row row args=>
      refine⟨fun hd=>by simp[Fence.wide]at hd,fun c cs _=> ?_⟩;obtain⟨v,w1,h1,h2⟩:=h c cs;exact⟨v,w1,hK _ _ h1,stepsIn_wide.2 h2⟩
    |halt x w'=>cases x<;>simp only[Oper.upon,Oper.uponIn]at h⊢<;>exact h
   ·exact absurd hl hQ
  ·next hw=>
   rw[if_neg hw]at h;exact⟨fun _ _=>trivial,hK _ _ h⟩
theorem wpAnyIn_of (hnd:noDefer ops=true)(hQ:¬LetsOut Q):∀(f:Nat) (listed:Array Bool) (a:Act) (w:World),wpAny P md ops Q f listed a w→wpAnyIn (Fence.wide.inRound l) n P md ops Q f listed a w
 |0,_,_,_,h=>h
 |f+1,_,_,_,h=>⟨h.1,fun i hi=>wpOpIn_of hnd hQ (fun a' w' h'=>wpAnyIn_of hnd hQ f _ a' w' h') (h.2 i hi)⟩
theorem region_I {id:Nat}(S:World→Prop)(late:List Nat)(hm:P.follows .mixedOrders=true)(hnd:noDefer ops=true)(hQ:¬LetsOut Q)(h:wpAnyT P .any ops Q S late ops.size (Array.replicate ops.size false) a {w with drawn:=w.drawn+1}):(Code.region id ops true).wpIn (Fence.wide.inRound l) n P Q a w:=
 wpIn_region_any hm (wpAnyIn_of hnd hQ _ _ _ _ (wpAny_of_T _ _ _ _ h))
theorem pairT {j:Nat}{o o':Oper}{f:Nat}{listed:Array Bool}(hi:ops[i]?=some o)(hj:ops[j]?=some o')(hr:Region.ready md ops listed=[i,j])(h1:∀K:Act→World→Prop,RowKit.Hid (∀a' w',(i∉late→S w')→wpAnyT P md ops Q S late f (listed.setIfInBounds i true) a' w'→K a' w')→if Region.wanted o (yielded ops a.tmps)=true then o.wp P a w K Q else K (a.put o.dst undef) w)(h2:∀K:Act→World→Prop,RowKit.Hid (∀a' w',(j∉late→S w')→wpAnyT P md ops Q S late f (listed.setIfInBounds j true) a' w'→K a' w')→if Region.wanted o' (yielded ops a.tmps)=true then o'.wp P a w K Q else K (a.put o'.dst undef) w):wpAnyT P md ops Q S late (f+1) listed a w:=by
 have one:∀(k:Nat) (x:Oper),ops[k]?=some x→k∈Region.ready md ops listed→
   (∀K:Act→World→Prop,RowKit.Hid (∀a' w',(k∉late→S w')→wpAnyT P md ops Q S late f (listed.setIfInBounds k true) a' w'→K a' w')→if Region.wanted x (yielded ops a.tmps)=true then x.wp P a w K Q else K (a.put x.dst undef) w)→
   wpOp P ops Q k (fun a' w'=>(Early late (listed.setIfInBounds k true)→S w')∧wpAnyT P md ops Q S late f (listed.setIfInBounds k true) a' w') a w:=by
  intro k x hk hkr h;have hun:listed.getD k true=false:=(mem_ready.1 hkr).1;unfold wpOp;simp only[hk]
  have:=h (fun a' w'=>(Early late (listed.setIfInBounds k true)→S w')∧wpAnyT P md ops Q S late f (listed.setIfInBounds k true) a' w') (qd fun a' w' h1 h2=>⟨fun hE=>by
   by_cases hkn:k∈late
   ·have h3:=hE k hkn
    have hlt:k<listed.size:=by
     rcases Nat.lt_or_ge k listed.size with h'|h'
     ·exact h'
     ·simp[Array.getElem?_eq_none h']at hun
    simp[hlt]at h3
   ·exact h1 hkn,h2⟩)
  split
  ·next hw=>rw[if_pos hw]at this;exact .inl this
  ·next hw=>rw[if_neg hw]at this;exact this
 refine⟨(fun h0=>by rw[hr]at h0;cases h0),fun k hk=> ?_⟩;have hk':=hk;rw[hr]at hk;rcases List.mem_cons.1 hk with rfl|hk
 ·exact one _ o hi hk' h1
 ·obtain rfl:k=j:=by simpa using hk
  exact one _ o' hj hk' h2
def cutQ (R:Act→World→Prop)(Q:Exit→Act→World→Prop):Exit→Act→World→Prop
 | .normal,a,w=>R a w
 |e,a,w=>Q e a w
theorem cutI (R:Act→World→Prop)(h:c.wpIn F n P (cutQ R Q) a w)(hR:∀a w,R a w→Q .normal a w):c.wpIn F n P Q a w:=
 wpIn_mono h fun e a w hq=>by cases e<;>first|exact hR _ _ hq|exact hq
def calmQ (Q:Exit→Act→World→Prop):Exit→Act→World→Prop
 | .panic _,_,_=>False
 |e,a,w=>Q e a w
theorem callsIn_of_wp_calm {f:FuncId}{fn:Func}{args:Array Value}{R:Ending→World→Prop}(hf:P.funcs[f]?=some fn)(hb:fn.body=some c)(hF:F.fn f)(hro:F.round=none)(h:c.wpIn F n P (calmQ (bodyPostM F n P fn R)) {tmps:=args++Array.replicate (fn.ntmps-args.size) undef,defers:=[]} w):CallsIn F n P f args w R:=
 callsIn_of_wp_marks hf hb hF (wpIn_mono h fun e _ _ hq=>by cases e<;>first|exact hq|exact hq.elim) hro
end
end
end Go.Proofs.YtfbljmcjadfkoaaGreatDoor
