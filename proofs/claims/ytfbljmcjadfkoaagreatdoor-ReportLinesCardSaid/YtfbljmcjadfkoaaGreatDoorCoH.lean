/- The meter's counting by its contracts. -/
import Derived.Test.YtfbljmcjadfkoaaGreatDoorSqM
import Derived.Test.YtfbljmcjadfkoaaGreatDoorSqT
import Derived.Test.YtfbljmcjadfkoaaGreatDoorSq
import Derived.Test.YtfbljmcjadfkoaaGreatDoorProg
import Derived.WalkKit
import Derived.WalkSpells
import Derived.WalkLawsBesides
import Derived.LaidEql
import Derived.Stop.Asserts
import Derived.RowKitTokens
import Derived.KernelRfl
import Derived.Outline
namespace Go.Proofs.YtfbljmcjadfkoaaGreatDoor
set_option maxRecDepth 100000
set_option maxHeartbeats 4000000
open Go.RowKit AmC Go.Extern.Stop Go.Stop Go.Extern
section
theorem cell_in {W W':World}{a:Addr}{v:Value}(hb:Below W.heap.size W W')(h:W.cell? a=some v):W'.cell? a=some v:=(hb.cell (World.block_lt_of_cell? W a h)).trans h
theorem below_nx {a b c:World}(hb:Below b.heap.size b c)(h:Below a.heap.size a b):Below a.heap.size a c:=h.trans (hb.mono h.size)
def mCells (a l:Cnt)(m:Int):List Value:=[.int .i64 a.p,.int .i64 a.v,.int .i64 a.u,.int .i64 l.p,.int .i64 l.v,.int .i64 l.u,.bool false,.int .i64 m]
structure Met (w:World)(mb:Nat)(t:TypeId)(pre post:List Value)(mo:Nat)(a l:Cnt)(m:Int):Prop where
 len:pre.length=mo
 blk:Blk w mb t (pre++(mCells a l m++post)).toArray
section
variable {w w' : World} {mb mo : Nat} {t : TypeId} {pre post : List Value} {a l : Cnt} {m : Int}
theorem Met.at_ (h:Met w mb t pre post mo a l m)(i:Nat)(hi:i<8):w.cell? ⟨mb,mo+i,none⟩=(mCells a l m)[i]?:=by
 rw[h.blk.cell,List.getElem?_toArray,List.getElem?_append_right (by have:=h.len;omega),List.getElem?_append_left (by have:=h.len;simp[mCells];omega)];congr 1;have:=h.len;omega
theorem Met.frz (h:Met w mb t pre post mo a l m)(i:Nat):w.frozen? ⟨mb,i,none⟩=false:=h.blk.frozen i
theorem Met.lt (h:Met w mb t pre post mo a l m):mb<w.heap.size:=h.blk.lt
theorem Met.mod {S:List Nat}(h:Met w mb t pre post mo a l m)(hm:Mod S w w')(hg:mb∉S):Met w' mb t pre post mo a l m:=⟨h.len,h.blk.mod hm hg⟩
instance {w w':World}{mb:Nat}{t:TypeId}{pre post:List Value}{mo:Nat}{a l:Cnt}{m:Int}:Md (Met w mb t pre post mo a l m) w w' (Met w' mb t pre post mo a l m) (fun S=>mb∉S):=⟨fun h hm hs=>Met.mod h hm hs⟩
theorem Met.below (h:Met w mb t pre post mo a l m)(hb:Below w.heap.size w w'):Met w' mb t pre post mo a l m:=⟨h.len,h.blk.below hb h.lt⟩
theorem set_mid (pre x post:List Value)(i:Nat)(u:Value)(hi:i<x.length):(pre++(x++post)).toArray.setIfInBounds (pre.length+i) u=(pre++(x.set i u++post)).toArray:=by
 rw[List.setIfInBounds_toArray,List.set_append_right _ _ (by omega),Nat.add_sub_cancel_left,List.set_append_left _ _ hi]
theorem Met.set_all (h:Met w mb t pre post mo a l m)(x:Cnt):Met (((w.setCell ⟨mb,mo,none⟩ (.int .i64 x.p)).setCell ⟨mb,mo+1,none⟩ (.int .i64 x.v)).setCell ⟨mb,mo+2,none⟩ (.int .i64 x.u)) mb t pre post mo x l m:=by
 refine⟨h.len, ?_⟩;have:=((h.blk.set_ (mo+0) (.int .i64 x.p)).set_ (mo+1) (.int .i64 x.v)).set_ (mo+2) (.int .i64 x.u);rw[←h.len,set_mid _ _ _ _ _ (by simp[mCells]),set_mid _ _ _ _ _ (by simp[mCells]),set_mid _ _ _ _ _ (by simp[mCells])]at this;rw[←h.len];exact this
theorem Met.set_last (h:Met w mb t pre post mo a l m)(x:Cnt):Met (((w.setCell ⟨mb,mo+3,none⟩ (.int .i64 x.p)).setCell ⟨mb,mo+3+1,none⟩ (.int .i64 x.v)).setCell ⟨mb,mo+3+2,none⟩ (.int .i64 x.u)) mb t pre post mo a x m:=by
 refine⟨h.len, ?_⟩;have:=((h.blk.set_ (mo+3) (.int .i64 x.p)).set_ (mo+4) (.int .i64 x.v)).set_ (mo+5) (.int .i64 x.u);rw[←h.len,set_mid _ _ _ _ _ (by simp[mCells]),set_mid _ _ _ _ _ (by simp[mCells]),set_mid _ _ _ _ _ (by simp[mCells])]at this;rw[←h.len];exact this
end
def AddPost (w:World)(mb:Nat)(t:TypeId)(pre post:List Value)(mo:Nat)(a l:Cnt)(m:Int)(c:Cnt)(e:Ending)(w':World):Prop:=
 e= .returned undef∧Met w' mb t pre post mo (plusC a c) (plusC l c) m∧Mod [mb] w w'
theorem meter_add (mb:Nat)(t:TypeId)(pre post:List Value)(mo:Nat)(a l:Cnt)(m:Int)(c:Cnt)(w:World)(h:Met w mb t pre post mo a l m):
  Calls Tryz.prog 224 #[.pointer (some ⟨mb,mo,none⟩),cntV c] w (AddPost w mb t pre post mo a l m c):=by
 have HP:=qd (fun(x:Cnt) (V:World)=>show Calls Tryz.prog 127 #[.agg #[.int .i64 x.p,.int .i64 x.v,.int .i64 x.u],.agg #[.int .i64 c.p,.int .i64 c.v,.int .i64 c.u]] V (fun e w'=>e= .returned (.agg #[.int .i64 (plusC x c).p,.int .i64 (plusC x c).v,.int .i64 (plusC x c).u])∧Below V.heap.size V w')from meter_Plus x c V);unfold cntV;have hB0:=(Below.refl w.heap.size w).alloc (Nat.le_refl _) (.cells #[.int .i64 c.p,.int .i64 c.v,.int .i64 c.u] 37);have hM:=h.below hB0;have hC:=Blk.new w 37 #[.int .i64 c.p,.int .i64 c.v,.int .i64 c.u];have hlt:=h.lt;obtain⟨W,hW⟩:∃W,W=w.alloc (.cells #[.int .i64 c.p,.int .i64 c.v,.int .i64 c.u] 37):=⟨_,rfl⟩;obtain⟨p,hp⟩:∃p,p=w.heap.size:=⟨_,rfl⟩;rw[←hW]at hB0 hM hC;rw[←hp]at hC;have m0:W.cell? ⟨mb,mo,none⟩=some (.int .i64 a.p):=hM.at_ 0 (by omega);have m1:W.cell? ⟨mb,mo+1,none⟩=some (.int .i64 a.v):=hM.at_ 1 (by omega);have m2:W.cell? ⟨mb,mo+2,none⟩=some (.int .i64 a.u):=hM.at_ 2 (by omega);have m3:W.cell? ⟨mb,mo+3,none⟩=some (.int .i64 l.p):=hM.at_ 3 (by omega);have m4:W.cell? ⟨mb,mo+3+1,none⟩=some (.int .i64 l.v):=hM.at_ 4 (by omega);have m5:W.cell? ⟨mb,mo+3+2,none⟩=some (.int .i64 l.u):=hM.at_ 5 (by omega);obtain⟨c0,c1,c2⟩:=hC.c3;have HW:=qd (And.intro hp hW);have HB0:=qd hB0;clear hW hp hC h hB0;go_in;go_upto_region 1 with fail;rw[←HW.out.2,←HW.out.1]
 refine rT (fun w'=>(w'.cell? ⟨mb,mo,none⟩=some (.int .i64 a.p)∧w'.cell? ⟨mb,mo+1,none⟩=some (.int .i64 a.v)∧w'.cell? ⟨mb,mo+2,none⟩=some (.int .i64 a.u)∧w'.cell? ⟨mb,mo+3,none⟩=some (.int .i64 l.p)∧w'.cell? ⟨mb,mo+3+1,none⟩=some (.int .i64 l.v)∧w'.cell? ⟨mb,mo+3+2,none⟩=some (.int .i64 l.u)∧w'.cell? ⟨p,0,none⟩=some (.int .i64 c.p)∧w'.cell? ⟨p,1,none⟩=some (.int .i64 c.v)∧w'.cell? ⟨p,2,none⟩=some (.int .i64 c.u))∧Below W.heap.size W w') [16,19] ?_;have hHeld:(fun w'=>(w'.cell? ⟨mb,mo,none⟩=some (.int .i64 a.p)∧w'.cell? ⟨mb,mo+1,none⟩=some (.int .i64 a.v)∧w'.cell? ⟨mb,mo+2,none⟩=some (.int .i64 a.u)∧w'.cell? ⟨mb,mo+3,none⟩=some (.int .i64 l.p)∧w'.cell? ⟨mb,mo+3+1,none⟩=some (.int .i64 l.v)∧w'.cell? ⟨mb,mo+3+2,none⟩=some (.int .i64 l.u)∧w'.cell? ⟨p,0,none⟩=some (.int .i64 c.p)∧w'.cell? ⟨p,1,none⟩=some (.int .i64 c.v)∧w'.cell? ⟨p,2,none⟩=some (.int .i64 c.u))∧Below W.heap.size W w') (World.drew W):=⟨⟨m0,m1,m2,m3,m4,m5,c0,c1,c2⟩,(Below.refl _ _).drew⟩;refine vW 0 rfl ?_;refine vW 1 rfl ?_;refine vW 2 rfl ?_;refine vW 3 rfl ?_;refine vW 4 rfl ?_;refine vT 5 rfl ?_;refine vT 6 rfl ?_;refine vW 8 rfl ?_;refine vW 9 rfl ?_;refine vW 10 rfl ?_;refine vT 11 rfl ?_;refine vT 12 rfl ?_;refine nT 7 rfl fun K hK=> ?_;go_simp;refine(HP.out a _).mono ?_;rintro e w1 ⟨rfl,hb1⟩;replace hb1:Below W.heap.size W w1:=below_nx hb1 (Below.refl _ _).drew;go_wp2_with fail
 have hHeld:=show(fun w'=>(w'.cell? ⟨mb,mo,none⟩=some (.int .i64 a.p)∧w'.cell? ⟨mb,mo+1,none⟩=some (.int .i64 a.v)∧w'.cell? ⟨mb,mo+2,none⟩=some (.int .i64 a.u)∧w'.cell? ⟨mb,mo+3,none⟩=some (.int .i64 l.p)∧w'.cell? ⟨mb,mo+3+1,none⟩=some (.int .i64 l.v)∧w'.cell? ⟨mb,mo+3+2,none⟩=some (.int .i64 l.u)∧w'.cell? ⟨p,0,none⟩=some (.int .i64 c.p)∧w'.cell? ⟨p,1,none⟩=some (.int .i64 c.v)∧w'.cell? ⟨p,2,none⟩=some (.int .i64 c.u))∧Below W.heap.size W w') _ from⟨⟨cell_in hb1 m0,cell_in hb1 m1,cell_in hb1 m2,cell_in hb1 m3,cell_in hb1 m4,cell_in hb1 m5,cell_in hb1 c0,cell_in hb1 c1,cell_in hb1 c2⟩,hb1⟩;refine kO hK ?_;clear hK K;refine nT 13 rfl fun K hK=> ?_;go_simp;refine(HP.out l _).mono ?_;rintro e w2 ⟨rfl,hb2⟩;replace hb2:Below W.heap.size W w2:=below_nx hb2 hb1;have hM2:=hM.below hb2;have fz:=hM2.frz;have n0:=cell_in hb2 m0;have n1:=cell_in hb2 m1;have n2:=cell_in hb2 m2;have n3:=cell_in hb2 m3;have n4:=cell_in hb2 m4;have n5:=cell_in hb2 m5;have g0:=fz mo;have g1:=fz (mo+1);have g2:=fz (mo+2);have g3:=fz (mo+3);have g4:=fz (mo+3+1);have g5:=fz (mo+3+2);clear fz;go_wp2_with fail
 have hHeld:=show(fun w'=>(w'.cell? ⟨mb,mo,none⟩=some (.int .i64 a.p)∧w'.cell? ⟨mb,mo+1,none⟩=some (.int .i64 a.v)∧w'.cell? ⟨mb,mo+2,none⟩=some (.int .i64 a.u)∧w'.cell? ⟨mb,mo+3,none⟩=some (.int .i64 l.p)∧w'.cell? ⟨mb,mo+3+1,none⟩=some (.int .i64 l.v)∧w'.cell? ⟨mb,mo+3+2,none⟩=some (.int .i64 l.u)∧w'.cell? ⟨p,0,none⟩=some (.int .i64 c.p)∧w'.cell? ⟨p,1,none⟩=some (.int .i64 c.v)∧w'.cell? ⟨p,2,none⟩=some (.int .i64 c.u))∧Below W.heap.size W w') _ from⟨⟨cell_in hb2 m0,cell_in hb2 m1,cell_in hb2 m2,cell_in hb2 m3,cell_in hb2 m4,cell_in hb2 m5,cell_in hb2 c0,cell_in hb2 c1,cell_in hb2 c2⟩,hb2⟩;refine kO hK ?_;clear hK K;refine vW 14 rfl ?_;refine vW 15 rfl ?_;refine nT 16 rfl fun K hK=> ?_;go_simp;refine kO hK ?_;clear hK K;refine vL 17 rfl ?_;refine vL 18 rfl ?_;refine nT 19 rfl fun K hK=> ?_;go_simp;refine kO hK ?_;clear hK K;refine doneT (by kernel_rfl) ?_ _;go_wp2;go_end0;exact⟨rfl,(hM2.set_all _).set_last _,((((((Mod.of_below (HB0.out.trans (hb2.mono HB0.out.size)) [mb]).set_ (.inl (by simp)) _ _).set_ (.inl (by simp)) _ _).set_ (.inl (by simp)) _ _).set_ (.inl (by simp)) _ _).set_ (.inl (by simp)) _ _).set_ (.inl (by simp)) _ _⟩
end
def lensV (p:Option Addr)(c:Cnt):Value:= .agg #[.pointer p,.int .i64 c.p,.int .i64 c.v,.int .i64 c.u]
theorem meter_Working (p:Option Addr)(w:World):Calls Tryz.prog 334 #[.pointer p] w fun e w'=>e= .returned (lensV p ⟨0,1,0⟩)∧Below w.heap.size w w':=by
 unfold lensV;go_in;go_wp2;exact bodyPost_ret (v:= .agg #[.pointer p,.int .i64 0,.int .i64 1,.int .i64 0]) (by simp[results,Tryz.results334,go_sem]) rfl ⟨rfl,(Below.refl _ _).alloc (Nat.le_refl _) _⟩
theorem lens_Visit_nil (c:Cnt)(w:World):Calls Tryz.prog 195 #[lensV none c] w fun e w'=>e= .returned undef∧Below w.heap.size w w':=by
 unfold lensV;go_in;go_wp2;go_end0;exact⟨rfl,(Below.refl _ _).alloc (Nat.le_refl _) _⟩
theorem AddPost.from {w w1 w':World}{mb:Nat}{t:TypeId}{pre post:List Value}{mo:Nat}{a l:Cnt}{m:Int}{c:Cnt}{e:Ending}(h:AddPost w1 mb t pre post mo a l m c e w')(hb:Below w.heap.size w w1):AddPost w mb t pre post mo a l m c e w':=
 ⟨h.1,h.2.1,(Mod.of_below hb [mb]).then h.2.2⟩
theorem lens_Visit (mb:Nat)(t:TypeId)(pre post:List Value)(mo:Nat)(a l:Cnt)(m:Int)(c:Cnt)(w:World)(h:Met w mb t pre post mo a l m):
  Calls Tryz.prog 195 #[lensV (some ⟨mb,mo,none⟩) c] w (AddPost w mb t pre post mo a l m c):=by
 unfold lensV;have hB:=(Below.refl w.heap.size w).alloc (Nat.le_refl _) (.cells #[.pointer (some ⟨mb,mo,none⟩),.int .i64 c.p,.int .i64 c.v,.int .i64 c.u] 203);have HA:=qd (show Calls Tryz.prog 224 #[.pointer (some ⟨mb,mo,none⟩),.agg #[.int .i64 c.p,.int .i64 c.v,.int .i64 c.u]] (w.alloc (.cells #[.pointer (some ⟨mb,mo,none⟩),.int .i64 c.p,.int .i64 c.v,.int .i64 c.u] 203)) _ from meter_add mb t pre post mo a l m c _ (h.below hB));have HB:=qd hB;clear h hB;go_in;go_wp2_with fail;refine HA.out.mono ?_;rintro e w1 ⟨rfl,hM,hm⟩;go_wp2;go_end0;exact⟨rfl,hM,(Mod.of_below HB.out [mb]).then hm⟩
theorem meter_Unit (mb:Nat)(t:TypeId)(pre post:List Value)(mo:Nat)(a l:Cnt)(m n:Int)(hn:1≤n)(w:World)(h:Met w mb t pre post mo a l m):
  Calls Tryz.prog 178 #[.pointer (some ⟨mb,mo,none⟩),.int .i64 n] w (AddPost w mb t pre post mo a l m ⟨0,0,n⟩):=by
 have m6:w.cell? ⟨mb,mo+6,none⟩=some (.bool false):=h.at_ 6 (by omega)
 have hn':¬n<1:=by omega
 have hz:=(Below.refl w.heap.size w).drew;have HA:=qd (show Calls Tryz.prog 224 #[.pointer (some ⟨mb,mo,none⟩),.agg #[.int .i64 0,.int .i64 0,.int .i64 n]] w.drew _ from meter_add mb t pre post mo a l m ⟨0,0,n⟩ _ (h.below hz));clear h hn;go_in;go_wp2;refine rT (fun w'=>w'.cell? ⟨mb,mo+6,none⟩=some (.bool false)) [] ?_;have hHeld:=m6;refine vW 0 rfl ?_;refine vW 1 rfl ?_;refine vW 2 rfl ?_;refine vT 3 rfl ?_;refine vW 4 rfl ?_;refine vU 5 rfl ?_;refine vU 6 rfl ?_;refine vU 7 rfl ?_;refine vU 8 rfl ?_;refine vU 9 rfl ?_;refine vU 10 rfl ?_;refine vU 11 rfl ?_;refine vU 12 rfl ?_;refine vU 13 rfl ?_;refine vU 14 rfl ?_;refine vU 15 rfl ?_;refine vU 16 rfl ?_;refine vW 17 rfl ?_;refine doneT (by kernel_rfl) ?_ _;go_wp2_with fail;refine HA.out.mono ?_;rintro e w1 ⟨rfl,hM,hm⟩;go_wp2;go_end0;exact⟨rfl,hM,(Mod.of_below hz [mb]).then hm⟩
def viewV (g:Addr):Value:= .agg #[.pointer (some g)]
theorem group_Look_nil (g:Addr)(c:Cnt)(w:World):Calls Tryz.prog 157 #[.pointer (some g),lensV none c] w fun e w'=>e= .returned (viewV g)∧Below w.heap.size w w':=by
 have hB:=((Below.refl w.heap.size w).alloc (Nat.le_refl _) (.cells #[.pointer none,.int .i64 c.p,.int .i64 c.v,.int .i64 c.u] 203)).alloc (by simp) (.cells #[.pointer none] 235);have hD:=Blk.new (w.alloc (.cells #[.pointer none,.int .i64 c.p,.int .i64 c.v,.int .i64 c.u] 203)) 235 #[.pointer none];rw[World.size_alloc]at hD;obtain⟨W,hW⟩:∃W,W=(w.alloc (.cells #[.pointer none,.int .i64 c.p,.int .i64 c.v,.int .i64 c.u] 203)).alloc (.cells #[.pointer none] 235):=⟨_,rfl⟩;rw[←hW]at hB hD;have HV:=qd (lens_Visit_nil c W);unfold lensV at HV⊢
 try unfold viewV
 have HW:=qd hW;clear hW;go_in;go_wp2_with fail;rw[←HW.out];refine(HV.out).mono ?_;rintro e w1 ⟨rfl,hb⟩;have hD1:=hD.below hb hD.lt;have d0:=hD1.cell 0;have f0:=hD1.frozen 0;simp only[List.getElem?_toArray,List.getElem?_cons_zero]at d0;have hbw:=hB.trans (hb.mono hB.size);go_wp2;exact bodyPost_ret (v:= .agg #[.pointer (some g)]) (by simp[results,Tryz.results157,go_sem,d0]) rfl ⟨rfl,hbw.setCell (p:=⟨w.heap.size+1,0,none⟩) (by simp) _⟩
def LookPost (w:World)(mb:Nat)(t:TypeId)(pre post:List Value)(mo:Nat)(a l:Cnt)(m:Int)(c:Cnt)(g:Addr)(e:Ending)(w':World):Prop:=
 e= .returned (viewV g)∧Met w' mb t pre post mo (plusC a c) (plusC l c) m∧Mod [mb] w w'
theorem group_Look (g:Addr)(mb:Nat)(t:TypeId)(pre post:List Value)(mo:Nat)(a l:Cnt)(m:Int)(c:Cnt)(w:World)(h:Met w mb t pre post mo a l m):Calls Tryz.prog 157 #[.pointer (some g),lensV (some ⟨mb,mo,none⟩) c] w (LookPost w mb t pre post mo a l m c g):=by
 have hB:=((Below.refl w.heap.size w).alloc (Nat.le_refl _) (.cells #[.pointer (some ⟨mb,mo,none⟩),.int .i64 c.p,.int .i64 c.v,.int .i64 c.u] 203)).alloc (by simp) (.cells #[.pointer none] 235);have hD:=Blk.new (w.alloc (.cells #[.pointer (some ⟨mb,mo,none⟩),.int .i64 c.p,.int .i64 c.v,.int .i64 c.u] 203)) 235 #[.pointer none];rw[World.size_alloc]at hD;obtain⟨W,hW⟩:∃W,W=(w.alloc (.cells #[.pointer (some ⟨mb,mo,none⟩),.int .i64 c.p,.int .i64 c.v,.int .i64 c.u] 203)).alloc (.cells #[.pointer none] 235):=⟨_,rfl⟩;rw[←hW]at hB hD;have hlt:=h.lt;have HV:=qd (lens_Visit mb t pre post mo a l m c W (h.below hB));clear h;unfold lensV at HV⊢
 try unfold viewV
 have HW:=qd hW;clear hW;go_in;go_wp2_with fail;rw[←HW.out];refine(HV.out).mono ?_;rintro e w1 ⟨rfl,hM,hm⟩
 have hne:w.heap.size+1≠mb:=by omega
 have hD1:=hD.mod hm (by simpa using hne);have d0:=hD1.cell 0;have f0:=hD1.frozen 0;simp only[List.getElem?_toArray,List.getElem?_cons_zero]at d0;have hbw:=(Mod.of_below hB [mb]).then hm;go_wp2;exact bodyPost_ret (v:= .agg #[.pointer (some g)]) (by simp[results,Tryz.results157,go_sem,d0]) rfl ⟨rfl,⟨hM.len,hM.blk.far (p:=⟨w.heap.size+1,0,none⟩) (fun e=>hne e.symm) _⟩,hbw.set_ (.inr (by simp)) _ _⟩
section
variable {E : Nat → Addr} {w w' : World} {B j : Nat}
def cmpE:Array Value→Sem Value:=Extern.ReflectliteType.method fun t=>do Extern.Rtype.noPackHeld "Comparable" t;pure (.bool (←typeInfo t).comparable)
def errP (a:Addr):Value:= .iface 372 (.pointer (some a))
def gE:Nat→Nat
 |1=>6 |2=>9 |3=>2 |4=>1 |5=>16 |6=>11 |7=>10 |8=>5
 |9=>4 |10=>8 |11=>17 |12=>7 |13=>0|14=>15 |15=>0|_=>14
structure ErrsIn (E:Nat→Addr)(w:World):Prop where
 cell:∀k,1≤k→k≤16→w.cell? ⟨gE k,0,none⟩=some (.iface 372 (.pointer (some (E k))))
 obj:∀k,1≤k→k≤16→∃c t,w.heap[(E k).block]?=some (.cells c t (0,0))
 inj:∀j k,1≤j→j≤16→1≤k→k≤16→E j=E k→j=k
theorem ErrsIn.of_block (h:ErrsIn E w)(hb:∀k,k<w.heap.size→w'.heap[k]?=w.heap[k]?):ErrsIn E w':=by
 refine⟨fun k h1 h2=> ?_,fun k h1 h2=> ?_,h.inj⟩
 ·have hc:=h.cell k h1 h2;rw[World.cell?_of_block (w:=w) (hb _ (World.block_lt_of_cell? w _ hc))];exact hc
 ·obtain⟨c,t,ho⟩:=h.obj k h1 h2;have:(E k).block<w.heap.size:=(Array.getElem?_eq_some_iff.1 ho).1;exact⟨c,t,(hb _ this).trans ho⟩
theorem ErrsIn.below (h:ErrsIn E w)(hb:Below B w w')(hB:w.heap.size≤B):ErrsIn E w':=h.of_block fun k hk=>hb.block k (by omega)
theorem ErrsIn.alloc (h:ErrsIn E w)(o:Obj):ErrsIn E (w.alloc o):=h.of_block fun k hk=>Below.heap_alloc w o k hk
theorem ErrsIn.drew (h:ErrsIn E w):ErrsIn E w.drew:=h.of_block fun _ _=>rfl
theorem ErrsIn.drewN (h:ErrsIn E w)(n:Nat):ErrsIn E (w.drewN n):=h.of_block fun _ _=>rfl
def ErrAt (E:Nat→Addr)(w:World)(k:Nat):Prop:=w.cell? ⟨gE k,0,none⟩=some (.iface 372 (.pointer (some (E k))))
theorem ErrAt.of_block (h:ErrAt E w j)(hb:∀k,k<w.heap.size→w'.heap[k]?=w.heap[k]?):ErrAt E w' j:=
 (World.cell?_of_block (hb _ (World.block_lt_of_cell? w _ h))).trans h
theorem ErrAt.below (h:ErrAt E w j)(hb:Below B w w')(hB:w.heap.size≤B):ErrAt E w' j:=h.of_block fun k hk=>hb.block k (by omega)
theorem ErrAt.alloc (h:ErrAt E w j)(o:Obj):ErrAt E (w.alloc o) j:=h.of_block fun k hk=>Below.heap_alloc w o k hk
theorem ErrAt.drewN (h:ErrAt E w j)(n:Nat):ErrAt E (w.drewN n) j:=h.of_block fun _ _=>rfl
theorem ErrsIn.at_ (h:ErrsIn E w)(k:Nat)(h1:1≤k)(h2:k≤16):ErrAt E w k:=h.cell k h1 h2
def errV (E:Nat→Addr)(k:Nat):Value:=if k=0 then .nilIface else .iface 372 (.pointer (some (E k)))
theorem errV_pos (E:Nat→Addr){k:Nat}(h:1≤k):errV E k= .iface 372 (.pointer (some (E k))):=by unfold errV;rw[if_neg (by omega)]
def allCells (E:Nat→Addr):List Value:=(List.range 16).map fun i=> .iface 372 (.pointer (some (E (i+1))))
end
section
def rawCells (l:List Nat)(es:List Ent):List Value:= .int .u64 ((w8 l:Nat):Int)::es.flatMap entCells
structure GRaw (w:World)(gb:Nat)(t:TypeId)(pre post:List Value)(go:Nat)(l:List Nat)(es:List Ent):Prop where
 len:pre.length=go
 l8:l.length=8
 bytes:Bytes l
 e8:es.length=8
 blk:Blk w gb t (pre++(rawCells l es++post)).toArray
theorem ents_length (es:List Ent):(es.flatMap entCells).length=3*es.length:=by
 induction es with
 |nil=>rfl
 |cons e es ih=>simp[entCells,ih];omega
theorem ents_get (es:List Ent)(i j:Nat)(hi:i<es.length)(hj:j<3):(es.flatMap entCells)[3*i+j]?=(entCells es[i])[j]?:=by
 induction es generalizing i with
 |nil=>simp at hi
 |cons e es ih=>
  rw[List.flatMap_cons]
  cases i with
  |zero=>rw[List.getElem?_append_left (by simp[entCells];omega)];simp
  |succ i=>
   rw[List.getElem?_append_right (by simp[entCells];omega)];have:=ih i (by simpa using hi);rw[show 3*(i+1)+j-(entCells e).length=3*i+j by simp[entCells];omega,this];rfl
theorem ents_set (es:List Ent)(i:Nat)(hi:i<es.length)(e:Ent):(((es.flatMap entCells).set (3*i) (.int .u64 (e.key:Int))).set (3*i+1) (.int .u64 (e.val:Int))).set (3*i+2) (.int .u64 (e.hash:Int))=(es.set i e).flatMap entCells:=by
 induction es generalizing i with
 |nil=>simp at hi
 |cons x es ih=>
  cases i with
  |zero=>simp[entCells]
  |succ i=>
   have h:=ih i (by simpa using hi);have hl:(entCells x).length=3:=rfl;rw[List.set_cons_succ,List.flatMap_cons,List.flatMap_cons,←h,List.set_append_right _ _ (by omega),List.set_append_right _ _ (by omega),List.set_append_right _ _ (by omega)];rw[show 3*(i+1)-(entCells x).length=3*i by omega,show 3*(i+1)+1-(entCells x).length=3*i+1 by omega,show 3*(i+1)+2-(entCells x).length=3*i+2 by omega]
section
variable {w w' : World} {gb go : Nat} {t : TypeId} {pre post : List Value} {l : List Nat} {es : List Ent}
theorem GRaw.lt (h:GRaw w gb t pre post go l es):gb<w.heap.size:=h.blk.lt
theorem GRaw.frz (h:GRaw w gb t pre post go l es)(i:Nat):w.frozen? ⟨gb,i,none⟩=false:=h.blk.frozen i
theorem GRaw.mod {S:List Nat}(h:GRaw w gb t pre post go l es)(hm:Mod S w w')(hg:gb∉S):GRaw w' gb t pre post go l es:=⟨h.len,h.l8,h.bytes,h.e8,h.blk.mod hm hg⟩
instance {w w':World}{gb:Nat}{t:TypeId}{pre post:List Value}{go:Nat}{l:List Nat}{es:List Ent}:Md (GRaw w gb t pre post go l es) w w' (GRaw w' gb t pre post go l es) (fun S=>gb∉S):=⟨fun h hm hs=>h.mod hm hs⟩
theorem GRaw.below (h:GRaw w gb t pre post go l es)(hb:Below w.heap.size w w'):GRaw w' gb t pre post go l es:=⟨h.len,h.l8,h.bytes,h.e8,h.blk.below hb h.lt⟩
theorem GRaw.alloc (h:GRaw w gb t pre post go l es)(o:Obj):GRaw (w.alloc o) gb t pre post go l es:=h.below ((Below.refl _ _).alloc (Nat.le_refl _) o)
theorem GRaw.word (h:GRaw w gb t pre post go l es):w.cell? ⟨gb,go,none⟩=some (.int .u64 ((w8 l:Nat):Int)):=by
 rw[h.blk.cell,List.getElem?_toArray,List.getElem?_append_right (by have:=h.len;omega)];simp[rawCells,h.len]
theorem GRaw.at_ (h:GRaw w gb t pre post go l es)(i j:Nat)(hi:i<8)(hj:j<3):w.cell? ⟨gb,go+1+i*3+j,none⟩=(entCells (es.getD i ⟨0,0,0⟩))[j]?:=by
 have h8:i<es.length:=by have:=h.e8;omega
 rw[h.blk.cell,List.getElem?_toArray,List.getElem?_append_right (by have:=h.len;omega),List.getElem?_append_left (by have:=h.len;rw[rawCells,List.length_cons,ents_length];omega)];rw[show go+1+i*3+j-pre.length=(3*i+j)+1 by have:=h.len;omega,rawCells,List.getElem?_cons_succ,ents_get es i j h8 hj,AmC.getD_in h8]
theorem GRaw.set_word (h:GRaw w gb t pre post go l es)(i b:Nat)(hb:b<256):GRaw (w.setCell ⟨gb,go,none⟩ (.int .u64 ((w8 (l.set i b):Nat):Int))) gb t pre post go (l.set i b) es:=by
 refine⟨h.len,by rw[List.length_set];exact h.l8,fun x hx=> ?_,h.e8, ?_⟩
 ·rcases List.mem_or_eq_of_mem_set hx with hx|rfl
  ·exact h.bytes x hx
  ·exact hb
 ·have:=h.blk.set_ (go+0) (.int .u64 ((w8 (l.set i b):Nat):Int));rw[←h.len,set_mid _ _ _ _ _ (by simp[rawCells])]at this;rw[←h.len];exact this
theorem GRaw.set_ent (h:GRaw w gb t pre post go l es)(i:Nat)(hi:i<8)(e:Ent):GRaw (((w.setCell ⟨gb,go+1+i*3,none⟩ (.int .u64 (e.key:Int))).setCell ⟨gb,go+1+i*3+1,none⟩ (.int .u64 (e.val:Int))).setCell ⟨gb,go+1+i*3+2,none⟩ (.int .u64 (e.hash:Int))) gb t pre post go l (es.set i e):=by
 have h8:i<es.length:=by have:=h.e8;omega
 refine⟨h.len,h.l8,h.bytes,by rw[List.length_set];exact h.e8, ?_⟩;have:=((h.blk.set_ (go+(3*i+1)) (.int .u64 (e.key:Int))).set_ (go+(3*i+1+1)) (.int .u64 (e.val:Int))).set_ (go+(3*i+2+1)) (.int .u64 (e.hash:Int));rw[←h.len,set_mid _ _ _ _ _ (by rw[rawCells,List.length_cons,ents_length];omega),set_mid _ _ _ _ _ (by rw[List.length_set,rawCells,List.length_cons,ents_length];omega),set_mid _ _ _ _ _ (by rw[List.length_set,List.length_set,rawCells,List.length_cons,ents_length];omega)]at this;rw[rawCells,List.set_cons_succ,List.set_cons_succ,List.set_cons_succ,ents_set es i h8 e]at this;rw[←h.len];rw[show pre.length+1+i*3=pre.length+(3*i+1) by omega,show pre.length+(3*i+1)+1=pre.length+(3*i+1+1) by omega,show pre.length+(3*i+1)+2=pre.length+(3*i+2+1) by omega];exact this
end
theorem view_full_ok (gb:Nat)(t:TypeId)(pre post:List Value)(go:Nat)(l:List Nat)(es:List Ent)(i:Nat)(hi:i<8)(must:Bool)(w:World)(h:GRaw w gb t pre post go l es)(hm:decide (l.getD i 0<128)=must):
  Calls Tryz.prog 251 #[viewV ⟨gb,go,none⟩,.int .i64 (i:Int),.bool must] w fun e w'=>e= .returned .nilIface∧Below w.heap.size w w':=by
 have HG:=qd (ctrl_Get l h.bytes i hi);have hw:=(h.alloc (.cells #[.pointer (some ⟨gb,go,none⟩)] 235)).word
 have h1:¬(i:Int)<0:=by omega
 have h2:¬(i:Int)≥8:=by omega
 unfold viewV;clear h;generalize l.getD i 0=b at*
 have hc:decide ((b:Int)<128)=must:=by rw[←hm];exact decide_eq_decide.2 (by omega)
 clear hm
 cases must with
 |true=>
  have hc':(b:Int)<128:=by simpa using hc
  clear hc;go_in;go_wp2_with (first|(refine(HG.out _).mono ?_;rintro e w1 ⟨rfl,rfl⟩));go_ret;exact⟨rfl,(Below.refl _ _).alloc (Nat.le_refl _) _⟩
 |false=>
  have hc':¬(b:Int)<128:=by simpa using hc
  clear hc;go_in;go_wp2_with (first|(refine(HG.out _).mono ?_;rintro e w1 ⟨rfl,rfl⟩));go_ret;exact⟨rfl,(Below.refl _ _).alloc (Nat.le_refl _) _⟩
theorem view_full_no (gb:Nat)(t:TypeId)(pre post:List Value)(go:Nat)(l:List Nat)(es:List Ent)(i:Nat)(hi:i<8)(w:World)(h:GRaw w gb t pre post go l es)(hm:¬l.getD i 0<128)(E:Nat→Addr)(hE:ErrAt E w 5):
  Calls Tryz.prog 251 #[viewV ⟨gb,go,none⟩,.int .i64 (i:Int),.bool true] w fun e w'=>e= .returned (.iface 372 (.pointer (some (E 5))))∧Below w.heap.size w w':=by
 have HG:=qd (ctrl_Get l h.bytes i hi);have hw:=(h.alloc (.cells #[.pointer (some ⟨gb,go,none⟩)] 235)).word;have hE':(w.alloc (.cells #[.pointer (some ⟨gb,go,none⟩)] 235)).cell? ⟨16,0,none⟩=some (.iface 372 (.pointer (some (E 5)))):=hE.alloc _
 have h1:¬(i:Int)<0:=by omega
 have h2:¬(i:Int)≥8:=by omega
 unfold viewV;clear h hE;generalize l.getD i 0=b at*
 have hc':¬(b:Int)<128:=by omega
 have hd':decide ((b:Int)<128)=false:=decide_eq_false hc';clear hm;go_in;go_wp2_with (first|(refine(HG.out _).mono ?_;rintro e w1 ⟨rfl,rfl⟩));go_ret;exact⟨rfl,(Below.refl _ _).alloc (Nat.le_refl _) _⟩
theorem view_At_full (gb:Nat)(t:TypeId)(pre post:List Value)(go:Nat)(l:List Nat)(es:List Ent)(i:Nat)(hi:i<8)(w:World)(h:GRaw w gb t pre post go l es)(hm:l.getD i 0<128):
  Calls Tryz.prog 206 #[viewV ⟨gb,go,none⟩,.int .i64 (i:Int)] w fun e w'=>e= .returned (.tuple #[entV (es.getD i ⟨0,0,0⟩),.bool true])∧Below w.heap.size w w':=by
 have hB:=((Below.refl w.heap.size w).alloc (Nat.le_refl _) (.cells #[.pointer (some ⟨gb,go,none⟩)] 235)).alloc (by simp) (.cells #[.int .u64 0,.int .u64 0,.int .u64 0] 199);have hV:=(Blk.new w 235 #[.pointer (some ⟨gb,go,none⟩)]).alloc (.cells #[.int .u64 0,.int .u64 0,.int .u64 0] 199);have hD:=Blk.new (w.alloc (.cells #[.pointer (some ⟨gb,go,none⟩)] 235)) 199 #[.int .u64 0,.int .u64 0,.int .u64 0];rw[World.size_alloc]at hD;obtain⟨W,hW⟩:∃W,W=(w.alloc (.cells #[.pointer (some ⟨gb,go,none⟩)] 235)).alloc (.cells #[.int .u64 0,.int .u64 0,.int .u64 0] 199):=⟨_,rfl⟩;rw[←hW]at hB hD hV;have hG:=h.below hB;have HF:=qd (view_full_ok gb t pre post go l es i hi true W hG (decide_eq_true hm));have HW:=qd hW;have hi8:i<8:=hi;have e0:=hG.at_ i 0 hi (by omega);rw[Nat.add_zero]at e0;have e1:=hG.at_ i 1 hi (by omega);have e2:=hG.at_ i 2 hi (by omega);unfold viewV at HF⊢;unfold entV;clear hW hG h hi;generalize es.getD i ⟨0,0,0⟩=x at*;simp only[entCells,List.getElem?_cons_zero,List.getElem?_cons_succ]at e0 e1 e2;go_in;go_wp2_with fail;rw[←HW.out];have v0:=hV.cell 0;simp only[List.getElem?_toArray,List.getElem?_cons_zero]at v0;go_wp2_with fail;refine(HF.out).mono ?_;rintro e w1 ⟨rfl,hb⟩;replace v0:=cell_in hb v0;replace e0:=cell_in hb e0;replace e1:=cell_in hb e1;replace e2:=cell_in hb e2;have hD1:=hD.below hb hD.lt;obtain⟨f0,f1,f2⟩:=hD1.f3;obtain⟨d0,d1,d2⟩:=hD1.c3;have hB1:=qd (below_nx hb hB)
 clear hb hB hD hV;go_wp2;refine bodyPost_ret (v:= .tuple #[.agg #[.int .u64 (x.key:Int),.int .u64 (x.val:Int),.int .u64 (x.hash:Int)],.bool true]) ?_ rfl ⟨rfl, ?_⟩
 ·simp[results,Tryz.results206,go_sem,d0,d1,d2]
 ·repeat (with_reducible first|exact hB1.out|refine Below.setCell ?_ ?_ _)
  all_goals (simp;try omega)
end
theorem view_At_no (gb:Nat)(t:TypeId)(pre post:List Value)(go:Nat)(l:List Nat)(es:List Ent)(i:Nat)(hi:i<8)(w:World)(h:GRaw w gb t pre post go l es)(hm:¬l.getD i 0<128)(E:Nat→Addr)(hE:ErrAt E w 5):
  Calls Tryz.prog 206 #[viewV ⟨gb,go,none⟩,.int .i64 (i:Int)] w fun e w'=>e= .returned (.tuple #[entV ⟨0,0,0⟩,.bool false])∧Below w.heap.size w w':=by
 obtain⟨W,hW,hB,hV,hD⟩:=qX2 w 235 #[.pointer (some ⟨gb,go,none⟩)] 199 #[.int .u64 0,.int .u64 0,.int .u64 0];have HF:=qd (view_full_no gb t pre post go l es i hi W (h.below hB) hm E (hE.below hB (Nat.le_refl _)));have HW:=qd hW;unfold viewV at HF⊢;unfold entV;clear hW h hi hE hm;go_in;go_wp2_with fail;rw[←HW.out];have v0:=hV.cell 0;simp only[List.getElem?_toArray,List.getElem?_cons_zero]at v0;go_wp2_with fail;refine(HF.out).mono ?_;rintro e w1 ⟨rfl,hb⟩;have hD1:=hD.below hb hD.lt;obtain⟨d0,d1,d2⟩:=hD1.c3;obtain⟨f0,f1,f2⟩:=hD1.f3;have hB1:=qd (below_nx hb hB);clear hb hB hD hV;go_wp2;refine bodyPost_ret (v:= .tuple #[.agg #[.int .u64 0,.int .u64 0,.int .u64 0],.bool false]) ?_ rfl ⟨rfl, ?_⟩
 ·simp[results,Tryz.results206,go_sem,d0,d1,d2]
 ·repeat (with_reducible first|exact hB1.out|refine Below.setCell ?_ ?_ _)
  all_goals (simp;try omega)
theorem view_Free (gb:Nat)(t:TypeId)(pre post:List Value)(go:Nat)(l:List Nat)(es:List Ent)(w:World)(h:GRaw w gb t pre post go l es)(hT:TzIn w):
  Calls Tryz.prog 203 #[viewV ⟨gb,go,none⟩] w fun e w'=>e= .returned (.int .i64 (optI (firstM (l.map topB))))∧Below w.heap.size w w':=by
 have hg:=(World.block_lt_of_cell? w _ (hT 0 (by omega)));have hB:=(Below.refl w.heap.size w).alloc (Nat.le_refl _) (.cells #[.pointer (some ⟨gb,go,none⟩)] 235);have hV:=Blk.new w 235 #[.pointer (some ⟨gb,go,none⟩)];obtain⟨W,hW⟩:∃W,W=w.alloc (.cells #[.pointer (some ⟨gb,go,none⟩)] 235):=⟨_,rfl⟩;rw[←hW]at hB hV;have hG:=h.below hB;have hT1:TzIn W:=fun i hi=>(hB.cell (p:=⟨19,tzIdx i,none⟩) hg).trans (hT i hi);have H1:=qd (ctrl_Frees l h.l8 h.bytes);have H2:=qd (swar_First (l.map topB) (by simpa using h.l8) (marks_top l).bytes W hT1);rw[top_marks (marks_top l)]at H2;have HW:=qd hW;have hw:=hG.word;have v0:=hV.cell 0;simp only[List.getElem?_toArray,List.getElem?_cons_zero]at v0;have HB:=qd hB;unfold viewV;clear hW h hT hT1 hG hB hV;go_in;go_upto_region 1 with fail;rw[←HW.out];go_wp2_with fail;refine(H1.out _).mono ?_;rintro e w1 ⟨rfl,rfl⟩;go_wp2_with fail;refine H2.out.mono ?_;rintro e w1 ⟨rfl,rfl⟩;go_wp2;go_ret;exact⟨rfl,HB.out⟩
theorem open_zero {l:List Nat}:(((w8 (l.map (eqB 128)):Nat):Int) !=0)=l.any (·==128):=by
 cases hb:l.any (·==128)with
 |true=>
  rw[bne_iff_ne];intro h0;obtain⟨x,hx,he⟩:=List.any_eq_true.1 hb;have:=(w8_zero _).1 (by omega:w8 (l.map (eqB 128))=0) (eqB 128 x) (List.mem_map_of_mem hx);rw[beq_iff_eq]at he;subst he;simp[eqB]at this
 |false=>
  rw[bne_eq_false_iff_eq]
  have:w8 (l.map (eqB 128))=0:=(w8_zero _).2 fun b hx=>by
   obtain⟨y,hy,rfl⟩:=List.mem_map.1 hx;have:=List.any_eq_false.1 hb y hy;unfold eqB;rw[if_neg (by simpa using this)]
  omega
theorem view_Open (gb:Nat)(t:TypeId)(pre post:List Value)(go:Nat)(l:List Nat)(es:List Ent)(w:World)(h:GRaw w gb t pre post go l es):
  Calls Tryz.prog 205 #[viewV ⟨gb,go,none⟩] w fun e w'=>e= .returned (.bool (l.any (·==128)))∧Below w.heap.size w w':=by
 have hB:=(Below.refl w.heap.size w).alloc (Nat.le_refl _) (.cells #[.pointer (some ⟨gb,go,none⟩)] 235);have hV:=Blk.new w 235 #[.pointer (some ⟨gb,go,none⟩)];obtain⟨W,hW⟩:∃W,W=w.alloc (.cells #[.pointer (some ⟨gb,go,none⟩)] 235):=⟨_,rfl⟩;rw[←hW]at hB hV;have hG:=h.below hB;have H1:=qd (ctrl_Empties l h.l8 h.bytes);have HO:=qd (open_zero (l:=l));have HW:=qd hW;have hw:=hG.word;have v0:=hV.cell 0;simp only[List.getElem?_toArray,List.getElem?_cons_zero]at v0;have HB:=qd hB;unfold viewV;clear hW h hG hB hV;generalize w8 (l.map (eqB 128))=m at*;generalize l.any (·==128)=o at*;go_in;go_upto_region 1 with fail;rw[←HW.out];go_wp2_with fail;refine(H1.out _).mono ?_;rintro e w1 ⟨rfl,rfl⟩;have ho:=HO.out;go_wp2;go_ret;exact⟨rfl,HB.out⟩
theorem view_mark (gb:Nat)(t:TypeId)(pre post:List Value)(go:Nat)(l:List Nat)(es:List Ent)(i b:Nat)(hi:i<8)(hb8:b<256)(hb:b≤128∨b=254)(w:World)(h:GRaw w gb t pre post go l es):
  Calls Tryz.prog 253 #[viewV ⟨gb,go,none⟩,.int .i64 (i:Int),.int .u8 (b:Int)] w fun e w'=>e= .returned undef∧GRaw w' gb t pre post go (l.set i b) es∧Mod [gb] w w':=by
 have hB:=(Below.refl w.heap.size w).alloc (Nat.le_refl _) (.cells #[.pointer (some ⟨gb,go,none⟩)] 235);have hV:=Blk.new w 235 #[.pointer (some ⟨gb,go,none⟩)];obtain⟨W,hW⟩:∃W,W=w.alloc (.cells #[.pointer (some ⟨gb,go,none⟩)] 235):=⟨_,rfl⟩;rw[←hW]at hB hV;have hG:=h.below hB;have hlt:=h.lt;have H1:=qd (ctrl_Set l h.l8 h.bytes i b hi hb8 hb);have HW:=qd hW;have hw:=hG.word;have v0:=hV.cell 0;simp only[List.getElem?_toArray,List.getElem?_cons_zero]at v0;have HB:=qd hB;unfold viewV;clear hW h hB hV hi hb;go_in;go_upto_region 1 with fail;rw[←HW.out];go_wp2_with fail;refine(H1.out _).mono ?_;rintro e w1 ⟨rfl,n,rfl⟩;have hf:=hG.frz go;have HS:=qd (show GRaw (W.drewN n) gb t pre post go l es from⟨hG.len,hG.l8,hG.bytes,hG.e8,hG.blk.drewN n⟩);clear hG;go_wp2;go_end0;exact⟨rfl,HS.out.set_word i b hb8,((Mod.of_below HB.out [gb]).then (Mod.drewN [gb] W n)).set_ (.inl (by simp)) _ _⟩
end Go.Proofs.YtfbljmcjadfkoaaGreatDoor
