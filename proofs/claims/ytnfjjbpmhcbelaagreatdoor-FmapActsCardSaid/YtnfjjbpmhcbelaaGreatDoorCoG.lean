/- A copy of elements of any size, and what it leaves of a row of the call's own. No program in sight. -/
import Derived.Laws.CopyOwn
import Derived.Laws.AppendOwn
import Derived.Shelf.Spec.SlicesInsert
import Derived.Test.YtnfjjbpmhcbelaaGreatDoorSqM
import Derived.Test.YtnfjjbpmhcbelaaGreatDoorFloatP
import Derived.Test.YtnfjjbpmhcbelaaGreatDoorGaugeA
import Derived.Test.YtnfjjbpmhcbelaaGreatDoorAppAny
import Derived.Lib.Overlaps
import Derived.Lib.AppendZeros
import Derived.Lib.AppendZerosOnto
import Derived.Lib.SliceRun
import Derived.Laws.NewBlocks
import Derived.Laws.Externs
import Derived.Test.YtnfjjbpmhcbelaaGreatDoorProg
import Derived.WalkKit
import Derived.WalkSpells
import Derived.WalkLawsBesides
import Derived.LaidEql
import Derived.Stop.Asserts
import Derived.RowKitTokens
import Derived.KernelRfl
import Derived.Outline
namespace Go.Proofs.YtnfjjbpmhcbelaaGreatDoor
set_option maxRecDepth 100000
set_option maxHeartbeats 4000000
open Go.RowKit dI ru Go.Shelf Go.Extern.Stop Go.Stop Go.Extern
section
variable {d n o : Nat}
section
variable {α : Type} {L cs xs vs : List α}
end
end
section
def aeL (p:Nat×Nat):List Value:=[nU p.1,nU p.2]
section
variable {base most fb n : Nat} {w w' : World} {F S : List Nat} {l l' : PL}
end
def aeJ (a b:Nat):Int:=if a<b then-1 else if b<a then 1 else 0
end
section
theorem aI {W W':World}{a:Addr}{v:Value}(hb:Below W.heap.size W W')(h:W.cell? a=some v):W'.cell? a=some v:=(hb.cell (World.block_lt_of_cell? W a h)).trans h
theorem bP {a b c:World}(hb:Below b.heap.size b c)(h:Below a.heap.size a b):Below a.heap.size a c:=h.trans (hb.mono h.size)
def sJ (a l:bq)(m:Int):List Value:=[.int .i64 a.p,.int .i64 a.v,.int .i64 a.u,.int .i64 l.p,.int .i64 l.v,.int .i64 l.u,.bool false,.int .i64 m]
structure Met (w:World)(mb:Nat)(t:TypeId)(pre post:List Value)(mo:Nat)(a l:bq)(m:Int):Prop where
 len:pre.length=mo
 blk:aj w mb t (pre++(sJ a l m++post)).toArray
section
variable {w w' : World} {mb mo : Nat} {t : TypeId} {pre post : List Value} {a l : bq} {m : Int}
theorem Met.at_ (h:Met w mb t pre post mo a l m)(i:Nat)(hi:i<8):w.cell? ⟨mb,mo+i,none⟩=(sJ a l m)[i]?:=by
 rw[h.blk.cell,List.getElem?_toArray,List.getElem?_append_right (by have:=h.len;omega),List.getElem?_append_left (by have:=h.len;simp[sJ];omega)];congr 1;have:=h.len;omega
theorem Met.vB (h:Met w mb t pre post mo a l m)(i:Nat):w.frozen? ⟨mb,i,none⟩=false:=h.blk.frozen i
theorem Met.lt (h:Met w mb t pre post mo a l m):mb<w.heap.size:=h.blk.lt
theorem Met.mod {S:List Nat}(h:Met w mb t pre post mo a l m)(hm:Mod S w w')(hg:mb∉S):Met w' mb t pre post mo a l m:=⟨h.len,h.blk.mod hm hg⟩
instance {w w':World}{mb:Nat}{t:TypeId}{pre post:List Value}{mo:Nat}{a l:bq}{m:Int}:Md (Met w mb t pre post mo a l m) w w' (Met w' mb t pre post mo a l m) (fun S=>mb∉S):=⟨fun h hm hs=>Met.mod h hm hs⟩
theorem Met.below (h:Met w mb t pre post mo a l m)(hb:Below w.heap.size w w'):Met w' mb t pre post mo a l m:=⟨h.len,h.blk.below hb h.lt⟩
theorem set_mid (pre x post:List Value)(i:Nat)(u:Value)(hi:i<x.length):(pre++(x++post)).toArray.setIfInBounds (pre.length+i) u=(pre++(x.set i u++post)).toArray:=by
 rw[List.setIfInBounds_toArray,List.set_append_right _ _ (by omega),Nat.add_sub_cancel_left,List.set_append_left _ _ hi]
theorem Met.aa3 (h:Met w mb t pre post mo a l m)(x:bq):Met (((w.setCell ⟨mb,mo,none⟩ (.int .i64 x.p)).setCell ⟨mb,mo+1,none⟩ (.int .i64 x.v)).setCell ⟨mb,mo+2,none⟩ (.int .i64 x.u)) mb t pre post mo x l m:=by
 refine⟨h.len, ?_⟩;have:=((h.blk.ak (mo+0) (.int .i64 x.p)).ak (mo+1) (.int .i64 x.v)).ak (mo+2) (.int .i64 x.u);rw[←h.len,set_mid _ _ _ _ _ (by simp[sJ]),set_mid _ _ _ _ _ (by simp[sJ]),set_mid _ _ _ _ _ (by simp[sJ])]at this;rw[←h.len];exact this
theorem Met.M0 (h:Met w mb t pre post mo a l m)(x:bq):Met (((w.setCell ⟨mb,mo+3,none⟩ (.int .i64 x.p)).setCell ⟨mb,mo+3+1,none⟩ (.int .i64 x.v)).setCell ⟨mb,mo+3+2,none⟩ (.int .i64 x.u)) mb t pre post mo a x m:=by
 refine⟨h.len, ?_⟩;have:=((h.blk.ak (mo+3) (.int .i64 x.p)).ak (mo+4) (.int .i64 x.v)).ak (mo+5) (.int .i64 x.u);rw[←h.len,set_mid _ _ _ _ _ (by simp[sJ]),set_mid _ _ _ _ _ (by simp[sJ]),set_mid _ _ _ _ _ (by simp[sJ])]at this;rw[←h.len];exact this
end
def xE (w:World)(mb:Nat)(t:TypeId)(pre post:List Value)(mo:Nat)(a l:bq)(m:Int)(c:bq)(e:Ending)(w':World):Prop:=
 e= .returned undef∧Met w' mb t pre post mo (ji a c) (ji l c) m∧Mod [mb] w w'
theorem Ke (mb:Nat)(t:TypeId)(pre post:List Value)(mo:Nat)(a l:bq)(m:Int)(c:bq)(w:World)(h:Met w mb t pre post mo a l m):
  Calls Tryz.prog 175 #[.pointer (some ⟨mb,mo,none⟩),nG c] w (xE w mb t pre post mo a l m c):=by
 have HP:=qd (fun(x:bq) (V:World)=>show Calls Tryz.prog 82 #[.agg #[.int .i64 x.p,.int .i64 x.v,.int .i64 x.u],.agg #[.int .i64 c.p,.int .i64 c.v,.int .i64 c.u]] V (fun e w'=>e= .returned (.agg #[.int .i64 (ji x c).p,.int .i64 (ji x c).v,.int .i64 (ji x c).u])∧Below V.heap.size V w')from Bj x c V);unfold nG;have hB0:=(Below.refl w.heap.size w).alloc (Nat.le_refl _) (.cells #[.int .i64 c.p,.int .i64 c.v,.int .i64 c.u] 98);have hM:=h.below hB0;have hC:=aj.new w 98 #[.int .i64 c.p,.int .i64 c.v,.int .i64 c.u];have hlt:=h.lt;obtain⟨W,hW⟩:∃W,W=w.alloc (.cells #[.int .i64 c.p,.int .i64 c.v,.int .i64 c.u] 98):=⟨_,rfl⟩;obtain⟨p,hp⟩:∃p,p=w.heap.size:=⟨_,rfl⟩;rw[←hW]at hB0 hM hC;rw[←hp]at hC;have m0:W.cell? ⟨mb,mo,none⟩=some (.int .i64 a.p):=hM.at_ 0 (by omega);have m1:W.cell? ⟨mb,mo+1,none⟩=some (.int .i64 a.v):=hM.at_ 1 (by omega);have m2:W.cell? ⟨mb,mo+2,none⟩=some (.int .i64 a.u):=hM.at_ 2 (by omega);have m3:W.cell? ⟨mb,mo+3,none⟩=some (.int .i64 l.p):=hM.at_ 3 (by omega);have m4:W.cell? ⟨mb,mo+3+1,none⟩=some (.int .i64 l.v):=hM.at_ 4 (by omega);have m5:W.cell? ⟨mb,mo+3+2,none⟩=some (.int .i64 l.u):=hM.at_ 5 (by omega);obtain⟨c0,c1,c2⟩:=hC.c3;have HW:=qd (And.intro hp hW);have HB0:=qd hB0;clear hW hp hC h hB0;go_in;go_upto_region 1 with fail;rw[←HW.out.2,←HW.out.1]
 refine rT (fun w'=>(w'.cell? ⟨mb,mo,none⟩=some (.int .i64 a.p)∧w'.cell? ⟨mb,mo+1,none⟩=some (.int .i64 a.v)∧w'.cell? ⟨mb,mo+2,none⟩=some (.int .i64 a.u)∧w'.cell? ⟨mb,mo+3,none⟩=some (.int .i64 l.p)∧w'.cell? ⟨mb,mo+3+1,none⟩=some (.int .i64 l.v)∧w'.cell? ⟨mb,mo+3+2,none⟩=some (.int .i64 l.u)∧w'.cell? ⟨p,0,none⟩=some (.int .i64 c.p)∧w'.cell? ⟨p,1,none⟩=some (.int .i64 c.v)∧w'.cell? ⟨p,2,none⟩=some (.int .i64 c.u))∧Below W.heap.size W w') [16,19] ?_;have hHeld:(fun w'=>(w'.cell? ⟨mb,mo,none⟩=some (.int .i64 a.p)∧w'.cell? ⟨mb,mo+1,none⟩=some (.int .i64 a.v)∧w'.cell? ⟨mb,mo+2,none⟩=some (.int .i64 a.u)∧w'.cell? ⟨mb,mo+3,none⟩=some (.int .i64 l.p)∧w'.cell? ⟨mb,mo+3+1,none⟩=some (.int .i64 l.v)∧w'.cell? ⟨mb,mo+3+2,none⟩=some (.int .i64 l.u)∧w'.cell? ⟨p,0,none⟩=some (.int .i64 c.p)∧w'.cell? ⟨p,1,none⟩=some (.int .i64 c.v)∧w'.cell? ⟨p,2,none⟩=some (.int .i64 c.u))∧Below W.heap.size W w') (World.drew W):=⟨⟨m0,m1,m2,m3,m4,m5,c0,c1,c2⟩,(Below.refl _ _).drew⟩;refine vW 0 rfl ?_;refine vW 1 rfl ?_;refine vW 2 rfl ?_;refine vW 3 rfl ?_;refine vW 4 rfl ?_;refine vT 5 rfl ?_;refine vT 6 rfl ?_;refine vW 8 rfl ?_;refine vW 9 rfl ?_;refine vW 10 rfl ?_;refine vT 11 rfl ?_;refine vT 12 rfl ?_;refine nT 7 rfl fun K hK=> ?_;go_simp;refine(HP.out a _).mono ?_;rintro e w1 ⟨rfl,hb1⟩;replace hb1:Below W.heap.size W w1:=bP hb1 (Below.refl _ _).drew;go_wp2_with fail
 have hHeld:=show(fun w'=>(w'.cell? ⟨mb,mo,none⟩=some (.int .i64 a.p)∧w'.cell? ⟨mb,mo+1,none⟩=some (.int .i64 a.v)∧w'.cell? ⟨mb,mo+2,none⟩=some (.int .i64 a.u)∧w'.cell? ⟨mb,mo+3,none⟩=some (.int .i64 l.p)∧w'.cell? ⟨mb,mo+3+1,none⟩=some (.int .i64 l.v)∧w'.cell? ⟨mb,mo+3+2,none⟩=some (.int .i64 l.u)∧w'.cell? ⟨p,0,none⟩=some (.int .i64 c.p)∧w'.cell? ⟨p,1,none⟩=some (.int .i64 c.v)∧w'.cell? ⟨p,2,none⟩=some (.int .i64 c.u))∧Below W.heap.size W w') _ from⟨⟨aI hb1 m0,aI hb1 m1,aI hb1 m2,aI hb1 m3,aI hb1 m4,aI hb1 m5,aI hb1 c0,aI hb1 c1,aI hb1 c2⟩,hb1⟩;refine kO hK ?_;clear hK K;refine nT 13 rfl fun K hK=> ?_;go_simp;refine(HP.out l _).mono ?_;rintro e w2 ⟨rfl,hb2⟩;replace hb2:Below W.heap.size W w2:=bP hb2 hb1;have hM2:=hM.below hb2;have fz:=hM2.vB;have n0:=aI hb2 m0;have n1:=aI hb2 m1;have n2:=aI hb2 m2;have n3:=aI hb2 m3;have n4:=aI hb2 m4;have n5:=aI hb2 m5;have g0:=fz mo;have g1:=fz (mo+1);have g2:=fz (mo+2);have g3:=fz (mo+3);have g4:=fz (mo+3+1);have g5:=fz (mo+3+2);clear fz;go_wp2_with fail
 have hHeld:=show(fun w'=>(w'.cell? ⟨mb,mo,none⟩=some (.int .i64 a.p)∧w'.cell? ⟨mb,mo+1,none⟩=some (.int .i64 a.v)∧w'.cell? ⟨mb,mo+2,none⟩=some (.int .i64 a.u)∧w'.cell? ⟨mb,mo+3,none⟩=some (.int .i64 l.p)∧w'.cell? ⟨mb,mo+3+1,none⟩=some (.int .i64 l.v)∧w'.cell? ⟨mb,mo+3+2,none⟩=some (.int .i64 l.u)∧w'.cell? ⟨p,0,none⟩=some (.int .i64 c.p)∧w'.cell? ⟨p,1,none⟩=some (.int .i64 c.v)∧w'.cell? ⟨p,2,none⟩=some (.int .i64 c.u))∧Below W.heap.size W w') _ from⟨⟨aI hb2 m0,aI hb2 m1,aI hb2 m2,aI hb2 m3,aI hb2 m4,aI hb2 m5,aI hb2 c0,aI hb2 c1,aI hb2 c2⟩,hb2⟩;refine kO hK ?_;clear hK K;refine vW 14 rfl ?_;refine vW 15 rfl ?_;refine nT 16 rfl fun K hK=> ?_;go_simp;refine kO hK ?_;clear hK K;refine vL 17 rfl ?_;refine vL 18 rfl ?_;refine nT 19 rfl fun K hK=> ?_;go_simp;refine kO hK ?_;clear hK K;refine aR (by kernel_rfl) ?_ _;go_wp2;go_end0;exact⟨rfl,(hM2.aa3 _).M0 _,((((((Mod.of_below (HB0.out.trans (hb2.mono HB0.out.size)) [mb]).ak (.inl (by simp)) _ _).ak (.inl (by simp)) _ _).ak (.inl (by simp)) _ _).ak (.inl (by simp)) _ _).ak (.inl (by simp)) _ _).ak (.inl (by simp)) _ _⟩
end
def aG (p:Option Addr)(c:bq):Value:= .agg #[.pointer p,.int .i64 c.p,.int .i64 c.v,.int .i64 c.u]
theorem iW (p:Option Addr)(w:World):Calls Tryz.prog 79 #[.pointer p] w fun e w'=>e= .returned (aG p ⟨1,0,0⟩)∧Below w.heap.size w w':=by
 unfold aG;go_in;go_wp2;exact bodyPost_ret (v:= .agg #[.pointer p,.int .i64 1,.int .i64 0,.int .i64 0]) (by simp[results,Tryz.results79,go_sem]) rfl ⟨rfl,(Below.refl _ _).alloc (Nat.le_refl _) _⟩
theorem wm (p:Option Addr)(w:World):Calls Tryz.prog 307 #[.pointer p] w fun e w'=>e= .returned (aG p ⟨0,1,0⟩)∧Below w.heap.size w w':=by
 unfold aG;go_in;go_wp2;exact bodyPost_ret (v:= .agg #[.pointer p,.int .i64 0,.int .i64 1,.int .i64 0]) (by simp[results,Tryz.results307,go_sem]) rfl ⟨rfl,(Below.refl _ _).alloc (Nat.le_refl _) _⟩
theorem Jk (c:bq)(w:World):Calls Tryz.prog 208 #[aG none c] w fun e w'=>e= .returned undef∧Below w.heap.size w w':=by
 unfold aG;go_in;go_wp2;go_end0;exact⟨rfl,(Below.refl _ _).alloc (Nat.le_refl _) _⟩
theorem xE.from {w w1 w':World}{mb:Nat}{t:TypeId}{pre post:List Value}{mo:Nat}{a l:bq}{m:Int}{c:bq}{e:Ending}(h:xE w1 mb t pre post mo a l m c e w')(hb:Below w.heap.size w w1):xE w mb t pre post mo a l m c e w':=
 ⟨h.1,h.2.1,(Mod.of_below hb [mb]).then h.2.2⟩
theorem Sj (mb:Nat)(t:TypeId)(pre post:List Value)(mo:Nat)(a l:bq)(m:Int)(c:bq)(w:World)(h:Met w mb t pre post mo a l m):
  Calls Tryz.prog 208 #[aG (some ⟨mb,mo,none⟩) c] w (xE w mb t pre post mo a l m c):=by
 unfold aG;have hB:=(Below.refl w.heap.size w).alloc (Nat.le_refl _) (.cells #[.pointer (some ⟨mb,mo,none⟩),.int .i64 c.p,.int .i64 c.v,.int .i64 c.u] 163);have HA:=qd (show Calls Tryz.prog 175 #[.pointer (some ⟨mb,mo,none⟩),.agg #[.int .i64 c.p,.int .i64 c.v,.int .i64 c.u]] (w.alloc (.cells #[.pointer (some ⟨mb,mo,none⟩),.int .i64 c.p,.int .i64 c.v,.int .i64 c.u] 163)) _ from Ke mb t pre post mo a l m c _ (h.below hB));have HB:=qd hB;clear h hB;go_in;go_wp2_with fail;refine HA.out.mono ?_;rintro e w1 ⟨rfl,hM,hm⟩;go_wp2;go_end0;exact⟨rfl,hM,(Mod.of_below HB.out [mb]).then hm⟩
theorem EN (mb:Nat)(t:TypeId)(pre post:List Value)(mo:Nat)(a l:bq)(m:Int)(w:World)(h:Met w mb t pre post mo a l m):
  Calls Tryz.prog 76 #[.pointer (some ⟨mb,mo,none⟩)] w fun e w'=>e= .returned undef∧Met w' mb t pre post mo a ⟨0,0,0⟩ m∧Mod [mb] w w':=by
 have m3:w.cell? ⟨mb,mo+3,none⟩=some (.int .i64 l.p):=h.at_ 3 (by omega);have m4:w.cell? ⟨mb,mo+3+1,none⟩=some (.int .i64 l.v):=h.at_ 4 (by omega);have m5:w.cell? ⟨mb,mo+3+2,none⟩=some (.int .i64 l.u):=h.at_ 5 (by omega);have g3:=h.vB (mo+3);have g4:=h.vB (mo+3+1);have g5:=h.vB (mo+3+2);have HM:=qd h;clear h;go_in;go_wp2;go_end0;exact⟨rfl,HM.out.M0 ⟨0,0,0⟩,(((Mod.refl [mb] w).ak (.inl (by simp)) _ _).ak (.inl (by simp)) _ _).ak (.inl (by simp)) _ _⟩
theorem sK (mb:Nat)(t:TypeId)(pre post:List Value)(mo:Nat)(a l:bq)(m n:Int)(hn:1≤n)(w:World)(h:Met w mb t pre post mo a l m):
  Calls Tryz.prog 117 #[.pointer (some ⟨mb,mo,none⟩),.int .i64 n] w (xE w mb t pre post mo a l m ⟨0,0,n⟩):=by
 have m6:w.cell? ⟨mb,mo+6,none⟩=some (.bool false):=h.at_ 6 (by omega)
 have hn':¬n<1:=by omega
 have hz:=(Below.refl w.heap.size w).drew;have HA:=qd (show Calls Tryz.prog 175 #[.pointer (some ⟨mb,mo,none⟩),.agg #[.int .i64 0,.int .i64 0,.int .i64 n]] w.drew _ from Ke mb t pre post mo a l m ⟨0,0,n⟩ _ (h.below hz));clear h hn;go_in;go_wp2;refine rT (fun w'=>w'.cell? ⟨mb,mo+6,none⟩=some (.bool false)) [] ?_;have hHeld:=m6;refine vW 0 rfl ?_;refine vW 1 rfl ?_;refine vW 2 rfl ?_;refine vT 3 rfl ?_;refine vW 4 rfl ?_;refine vU 5 rfl ?_;refine vU 6 rfl ?_;refine vU 7 rfl ?_;refine vU 8 rfl ?_;refine vU 9 rfl ?_;refine vU 10 rfl ?_;refine vU 11 rfl ?_;refine vU 12 rfl ?_;refine vU 13 rfl ?_;refine vU 14 rfl ?_;refine vU 15 rfl ?_;refine vU 16 rfl ?_;refine vW 17 rfl ?_;refine aR (by kernel_rfl) ?_ _;go_wp2_with fail;refine HA.out.mono ?_;rintro e w1 ⟨rfl,hM,hm⟩;go_wp2;go_end0;exact⟨rfl,hM,(Mod.of_below hz [mb]).then hm⟩
def bC (g:Addr):Value:= .agg #[.pointer (some g)]
theorem Jl (g:Addr)(c:bq)(w:World):Calls Tryz.prog 146 #[.pointer (some g),aG none c] w fun e w'=>e= .returned (bC g)∧Below w.heap.size w w':=by
 have hB:=((Below.refl w.heap.size w).alloc (Nat.le_refl _) (.cells #[.pointer none,.int .i64 c.p,.int .i64 c.v,.int .i64 c.u] 163)).alloc (by simp) (.cells #[.pointer none] 201);have hD:=aj.new (w.alloc (.cells #[.pointer none,.int .i64 c.p,.int .i64 c.v,.int .i64 c.u] 163)) 201 #[.pointer none];rw[World.size_alloc]at hD;obtain⟨W,hW⟩:∃W,W=(w.alloc (.cells #[.pointer none,.int .i64 c.p,.int .i64 c.v,.int .i64 c.u] 163)).alloc (.cells #[.pointer none] 201):=⟨_,rfl⟩;rw[←hW]at hB hD;have HV:=qd (Jk c W);unfold aG at HV⊢
 try unfold bC
 have HW:=qd hW;clear hW;go_in;go_wp2_with fail;rw[←HW.out];refine(HV.out).mono ?_;rintro e w1 ⟨rfl,hb⟩;have hD1:=hD.below hb hD.lt;have d0:=hD1.cell 0;have f0:=hD1.frozen 0;simp only[List.getElem?_toArray,List.getElem?_cons_zero]at d0;have hbw:=hB.trans (hb.mono hB.size);go_wp2;exact bodyPost_ret (v:= .agg #[.pointer (some g)]) (by simp[results,Tryz.results146,go_sem,d0]) rfl ⟨rfl,hbw.setCell (p:=⟨w.heap.size+1,0,none⟩) (by simp) _⟩
def Yb (w:World)(mb:Nat)(t:TypeId)(pre post:List Value)(mo:Nat)(a l:bq)(m:Int)(c:bq)(g:Addr)(e:Ending)(w':World):Prop:=
 e= .returned (bC g)∧Met w' mb t pre post mo (ji a c) (ji l c) m∧Mod [mb] w w'
theorem wV (g:Addr)(mb:Nat)(t:TypeId)(pre post:List Value)(mo:Nat)(a l:bq)(m:Int)(c:bq)(w:World)(h:Met w mb t pre post mo a l m):Calls Tryz.prog 146 #[.pointer (some g),aG (some ⟨mb,mo,none⟩) c] w (Yb w mb t pre post mo a l m c g):=by
 have hB:=((Below.refl w.heap.size w).alloc (Nat.le_refl _) (.cells #[.pointer (some ⟨mb,mo,none⟩),.int .i64 c.p,.int .i64 c.v,.int .i64 c.u] 163)).alloc (by simp) (.cells #[.pointer none] 201);have hD:=aj.new (w.alloc (.cells #[.pointer (some ⟨mb,mo,none⟩),.int .i64 c.p,.int .i64 c.v,.int .i64 c.u] 163)) 201 #[.pointer none];rw[World.size_alloc]at hD;obtain⟨W,hW⟩:∃W,W=(w.alloc (.cells #[.pointer (some ⟨mb,mo,none⟩),.int .i64 c.p,.int .i64 c.v,.int .i64 c.u] 163)).alloc (.cells #[.pointer none] 201):=⟨_,rfl⟩;rw[←hW]at hB hD;have hlt:=h.lt;have HV:=qd (Sj mb t pre post mo a l m c W (h.below hB));clear h;unfold aG at HV⊢
 try unfold bC
 have HW:=qd hW;clear hW;go_in;go_wp2_with fail;rw[←HW.out];refine(HV.out).mono ?_;rintro e w1 ⟨rfl,hM,hm⟩
 have hne:w.heap.size+1≠mb:=by omega
 have hD1:=hD.mod hm (by simpa using hne);have d0:=hD1.cell 0;have f0:=hD1.frozen 0;simp only[List.getElem?_toArray,List.getElem?_cons_zero]at d0;have hbw:=(Mod.of_below hB [mb]).then hm;go_wp2;exact bodyPost_ret (v:= .agg #[.pointer (some g)]) (by simp[results,Tryz.results146,go_sem,d0]) rfl ⟨rfl,⟨hM.len,hM.blk.far (p:=⟨w.heap.size+1,0,none⟩) (fun e=>hne e.symm) _⟩,hbw.ak (.inr (by simp)) _ _⟩
section
variable {E : Nat → Addr} {w w' : World} {B j : Nat}
theorem M4 (v:Value)(w:World):(Extern.ReflectliteType.typeOf #[.iface 351 v]).run Tryz.prog w= .ok (.iface 149 (.agg #[.pointer (some ⟨18,351,none⟩)])) w:=by kernel_rfl
def Yc:Array Value→Sem Value:=Extern.ReflectliteType.method fun t=>do Extern.Rtype.noPackHeld "Comparable" t;pure (.bool (←typeInfo t).comparable)
theorem CQ (w:World):(Yc #[.agg #[.pointer (some ⟨18,351,none⟩)]]).run Tryz.prog w= .ok (.bool true) w:=by kernel_rfl
theorem vD (v:Value)(w:World):(Go.method 502 149 v "Comparable").run Tryz.prog w= .ok (322,v) w:=by kernel_rfl
theorem UK:(Tryz.prog.info? 351).map (·.comparable)=some true:=by kernel_rfl
theorem UL:(Tryz.prog.info? 390).map (·.size)=some 1:=by kernel_rfl
theorem ady (v:Value)(xT:TypeId)(w:World):(Instr.typeAssert (.iface 351 v) xT 151 true).run Tryz.prog w= .ok (.tuple #[.nilIface,.bool false]) w:=run_typeAssert_lacksB Tryz.underlying151 (by kernel_rfl) (by kernel_rfl) v xT w
theorem UM (v:Value)(xT:TypeId)(w:World):(Instr.typeAssert (.iface 351 v) xT 154 true).run Tryz.prog w= .ok (.tuple #[.nilIface,.bool false]) w:=run_typeAssert_lacksB Tryz.underlying154 (by kernel_rfl) (by kernel_rfl) v xT w
theorem Sk (v:Value)(xT:TypeId)(w:World):(Instr.typeAssert (.iface 351 v) xT 155 true).run Tryz.prog w= .ok (.tuple #[.nilIface,.bool false]) w:=run_typeAssert_lacksB Tryz.underlying155 (by kernel_rfl) (by kernel_rfl) v xT w
def afg (a:Addr):Value:= .iface 351 (.pointer (some a))
theorem QE (a:Addr)(w:World):
  Calls Tryz.prog 32 #[.iface 351 (.pointer (some a)),.iface 351 (.pointer (some a))] w fun e w'=>e= .returned (.bool true)∧w=w':=by
 obtain⟨i,hi,hcmp⟩:=Option.map_eq_some_iff.1 UK;obtain⟨j,hj,hjs⟩:=Option.map_eq_some_iff.1 UL;have h8:=@run_callFunc_extern Tryz.prog 48 _ Extern.ReflectliteType.typeOf Tryz.func48 (by kernel_rfl) (by kernel_rfl) (by kernel_rfl) (by kernel_rfl);have h32:=@run_callFunc_extern Tryz.prog 322 _ Yc Tryz.func322 (by kernel_rfl) (by kernel_rfl) (by kernel_rfl) (by kernel_rfl);have tT:=M4;have cT:=CQ;have mR:=vD;have heq:=run_eql_iface_ptr_same (P:=Tryz.prog) w a Tryz.underlying28 Tryz.underlying351 hi hcmp hj;go_in;go_wp2;refine wp_loop_rounds 1 ?_;rw[rounds_succ];go_wp2;go_ret;exact⟨rfl,rfl⟩
theorem Yd (a b:Addr)(ca cb:Array Value)(ta tb:TypeId)(w:World)(hne:a≠b)(ha:w.heap[a.block]?=some (.cells ca ta (0,0)))(hb:w.heap[b.block]?=some (.cells cb tb (0,0))):
  Calls Tryz.prog 32 #[.iface 351 (.pointer (some a)),.iface 351 (.pointer (some b))] w fun e w'=>e= .returned (.bool false)∧w=w':=by
 obtain⟨i,hi,hcmp⟩:=Option.map_eq_some_iff.1 UK;obtain⟨j,hj,hjs⟩:=Option.map_eq_some_iff.1 UL;have h8:=@run_callFunc_extern Tryz.prog 48 _ Extern.ReflectliteType.typeOf Tryz.func48 (by kernel_rfl) (by kernel_rfl) (by kernel_rfl) (by kernel_rfl);have h32:=@run_callFunc_extern Tryz.prog 322 _ Yc Tryz.func322 (by kernel_rfl) (by kernel_rfl) (by kernel_rfl) (by kernel_rfl);have tT:=M4;have cT:=CQ;have mR:=vD;have nE:=ady;have uE:=UM;have vE:=Sk;have heq:=run_eql_iface_ptr_other (P:=Tryz.prog) w Tryz.underlying28 Tryz.underlying351 hi hcmp hj (by rw[hjs];decide) hne ha hb;go_in;go_wp2;refine wp_loop_rounds 1 ?_;rw[rounds_succ];go_wp2;go_ret;exact⟨rfl,rfl⟩
def gE:Nat→Nat
 |1=>0 |2=>3 |3=>4 |4=>5 |5=>6 |6=>7 |7=>8 |8=>9
 |9=>10 |10=>11 |11=>12 |12=>2 |13=>13 |14=>14 |15=>15 |_=>16
structure eY (E:Nat→Addr)(w:World):Prop where
 cell:∀k,1≤k→k≤16→w.cell? ⟨gE k,0,none⟩=some (.iface 351 (.pointer (some (E k))))
 obj:∀k,1≤k→k≤16→∃c t,w.heap[(E k).block]?=some (.cells c t (0,0))
 inj:∀j k,1≤j→j≤16→1≤k→k≤16→E j=E k→j=k
theorem eY.of_block (h:eY E w)(hb:∀k,k<w.heap.size→w'.heap[k]?=w.heap[k]?):eY E w':=by
 refine⟨fun k h1 h2=> ?_,fun k h1 h2=> ?_,h.inj⟩
 ·have hc:=h.cell k h1 h2;rw[World.cell?_of_block (w:=w) (hb _ (World.block_lt_of_cell? w _ hc))];exact hc
 ·obtain⟨c,t,ho⟩:=h.obj k h1 h2;have:(E k).block<w.heap.size:=(Array.getElem?_eq_some_iff.1 ho).1;exact⟨c,t,(hb _ this).trans ho⟩
theorem eY.below (h:eY E w)(hb:Below B w w')(hB:w.heap.size≤B):eY E w':=h.of_block fun k hk=>hb.block k (by omega)
theorem eY.alloc (h:eY E w)(o:Obj):eY E (w.alloc o):=h.of_block fun k hk=>Below.heap_alloc w o k hk
theorem eY.drew (h:eY E w):eY E w.drew:=h.of_block fun _ _=>rfl
theorem eY.drewN (h:eY E w)(n:Nat):eY E (w.drewN n):=h.of_block fun _ _=>rfl
def fJ (E:Nat→Addr)(w:World)(k:Nat):Prop:=w.cell? ⟨gE k,0,none⟩=some (.iface 351 (.pointer (some (E k))))
theorem fJ.of_block (h:fJ E w j)(hb:∀k,k<w.heap.size→w'.heap[k]?=w.heap[k]?):fJ E w' j:=
 (World.cell?_of_block (hb _ (World.block_lt_of_cell? w _ h))).trans h
theorem fJ.below (h:fJ E w j)(hb:Below B w w')(hB:w.heap.size≤B):fJ E w' j:=h.of_block fun k hk=>hb.block k (by omega)
theorem fJ.alloc (h:fJ E w j)(o:Obj):fJ E (w.alloc o) j:=h.of_block fun k hk=>Below.heap_alloc w o k hk
theorem fJ.drewN (h:fJ E w j)(n:Nat):fJ E (w.drewN n) j:=h.of_block fun _ _=>rfl
theorem eY.at_ (h:eY E w)(k:Nat)(h1:1≤k)(h2:k≤16):fJ E w k:=h.cell k h1 h2
def jf (E:Nat→Addr)(k:Nat):Value:=if k=0 then .nilIface else .iface 351 (.pointer (some (E k)))
theorem UN (E:Nat→Addr):jf E 0= .nilIface:=rfl
theorem iI (E:Nat→Addr){k:Nat}(h:1≤k):jf E k= .iface 351 (.pointer (some (E k))):=by unfold jf;rw[if_neg (by omega)]
theorem aa4 (h:eY E w)(j k:Nat)(h1:1≤j)(h2:j≤16)(h3:1≤k)(h4:k≤16):
  Calls Tryz.prog 32 #[.iface 351 (.pointer (some (E j))),.iface 351 (.pointer (some (E k)))] w fun e w'=>e= .returned (.bool (j==k))∧w=w':=by
 by_cases hjk:j=k
 ·subst hjk;exact(QE (E j) w).mono fun e w' ⟨he,hw⟩=>⟨by rw[he];simp,hw⟩
 ·obtain⟨c,t,ho⟩:=h.obj j h1 h2;obtain⟨c',t',ho'⟩:=h.obj k h3 h4;exact(Yd (E j) (E k) c c' t t' w (fun e=>hjk (h.inj j k h1 h2 h3 h4 e)) ho ho').mono fun e w' ⟨he,hw⟩=>⟨by rw[he];simp[hjk],hw⟩
def qQ (E:Nat→Addr):List Value:=(List.range 16).map fun i=> .iface 351 (.pointer (some (E (i+1))))
theorem aa5 (h:eY E w):
  Calls Tryz.prog 31 #[] w fun e w'=>e= .returned (.slice (some ⟨w.heap.size,0,none⟩) 16 16)∧w.alloc (.cells (qQ E).toArray 28)=w':=by
 have h1:=h.cell 1 (by omega) (by omega);have h2:=h.cell 2 (by omega) (by omega);have h3:=h.cell 3 (by omega) (by omega);have h4:=h.cell 4 (by omega) (by omega);have h5:=h.cell 5 (by omega) (by omega);have h6:=h.cell 6 (by omega) (by omega);have h7:=h.cell 7 (by omega) (by omega);have h8:=h.cell 8 (by omega) (by omega);have h9:=h.cell 9 (by omega) (by omega);have h10:=h.cell 10 (by omega) (by omega);have h11:=h.cell 11 (by omega) (by omega);have h12:=h.cell 12 (by omega) (by omega);have h13:=h.cell 13 (by omega) (by omega);have h14:=h.cell 14 (by omega) (by omega);have h15:=h.cell 15 (by omega) (by omega);have h16:=h.cell 16 (by omega) (by omega);simp only[gE]at h1 h2 h3 h4 h5 h6 h7 h8 h9 h10 h11 h12 h13 h14 h15 h16;go_in;go_wp2;go_ret;exact⟨rfl,rfl⟩
theorem aa6 (w:World):Calls Tryz.prog 7 #[.nilIface] w fun e w'=>e= .returned (.int .i64 0)∧w=w':=by
 go_in;go_wp2;go_ret;exact⟨rfl,rfl⟩
end
section
def eZ (l:List Nat)(es:List av):List Value:= .int .u64 ((w8 l:Nat):Int)::es.flatMap aV
structure cO (w:World)(gb:Nat)(t:TypeId)(pre post:List Value)(go:Nat)(l:List Nat)(es:List av):Prop where
 len:pre.length=go
 l8:l.length=8
 bytes:Bytes l
 e8:es.length=8
 blk:aj w gb t (pre++(eZ l es++post)).toArray
theorem gF (es:List av):(es.flatMap aV).length=3*es.length:=by
 induction es with
 |nil=>rfl
 |cons e es ih=>simp[aV,ih];omega
theorem Ga (es:List av)(i j:Nat)(hi:i<es.length)(hj:j<3):(es.flatMap aV)[3*i+j]?=(aV es[i])[j]?:=by
 induction es generalizing i with
 |nil=>simp at hi
 |cons e es ih=>
  rw[List.flatMap_cons]
  cases i with
  |zero=>rw[List.getElem?_append_left (by simp[aV];omega)];simp
  |succ i=>
   rw[List.getElem?_append_right (by simp[aV];omega)];have:=ih i (by simpa using hi);rw[show 3*(i+1)+j-(aV e).length=3*i+j by simp[aV];omega,this];rfl
theorem M5 (es:List av)(i:Nat)(hi:i<es.length)(e:av):(((es.flatMap aV).set (3*i) (nU e.key)).set (3*i+1) (nU e.val)).set (3*i+2) (nU e.hash)=(es.set i e).flatMap aV:=by
 induction es generalizing i with
 |nil=>simp at hi
 |cons x es ih=>
  cases i with
  |zero=>simp[aV]
  |succ i=>
   have h:=ih i (by simpa using hi);have hl:(aV x).length=3:=rfl;rw[List.set_cons_succ,List.flatMap_cons,List.flatMap_cons,←h,List.set_append_right _ _ (by omega),List.set_append_right _ _ (by omega),List.set_append_right _ _ (by omega)];rw[show 3*(i+1)-(aV x).length=3*i by omega,show 3*(i+1)+1-(aV x).length=3*i+1 by omega,show 3*(i+1)+2-(aV x).length=3*i+2 by omega]
section
variable {w w' : World} {gb go : Nat} {t : TypeId} {pre post : List Value} {l : List Nat} {es : List av}
theorem cO.lt (h:cO w gb t pre post go l es):gb<w.heap.size:=h.blk.lt
theorem cO.vB (h:cO w gb t pre post go l es)(i:Nat):w.frozen? ⟨gb,i,none⟩=false:=h.blk.frozen i
theorem cO.mod {S:List Nat}(h:cO w gb t pre post go l es)(hm:Mod S w w')(hg:gb∉S):cO w' gb t pre post go l es:=⟨h.len,h.l8,h.bytes,h.e8,h.blk.mod hm hg⟩
instance {w w':World}{gb:Nat}{t:TypeId}{pre post:List Value}{go:Nat}{l:List Nat}{es:List av}:Md (cO w gb t pre post go l es) w w' (cO w' gb t pre post go l es) (fun S=>gb∉S):=⟨fun h hm hs=>h.mod hm hs⟩
theorem cO.below (h:cO w gb t pre post go l es)(hb:Below w.heap.size w w'):cO w' gb t pre post go l es:=⟨h.len,h.l8,h.bytes,h.e8,h.blk.below hb h.lt⟩
theorem cO.alloc (h:cO w gb t pre post go l es)(o:Obj):cO (w.alloc o) gb t pre post go l es:=h.below ((Below.refl _ _).alloc (Nat.le_refl _) o)
theorem cO.word (h:cO w gb t pre post go l es):w.cell? ⟨gb,go,none⟩=some (.int .u64 ((w8 l:Nat):Int)):=by
 rw[h.blk.cell,List.getElem?_toArray,List.getElem?_append_right (by have:=h.len;omega)];simp[eZ,h.len]
theorem cO.at_ (h:cO w gb t pre post go l es)(i j:Nat)(hi:i<8)(hj:j<3):w.cell? ⟨gb,go+1+i*3+j,none⟩=(aV (es.getD i ⟨0,0,0⟩))[j]?:=by
 have h8:i<es.length:=by have:=h.e8;omega
 rw[h.blk.cell,List.getElem?_toArray,List.getElem?_append_right (by have:=h.len;omega),List.getElem?_append_left (by have:=h.len;rw[eZ,List.length_cons,gF];omega)];rw[show go+1+i*3+j-pre.length=(3*i+j)+1 by have:=h.len;omega,eZ,List.getElem?_cons_succ,Ga es i j h8 hj,dI.getD_in h8]
theorem cO.aa7 (h:cO w gb t pre post go l es)(i:Nat)(hi:i<8)(v:Nat):cO (w.setCell ⟨gb,go+1+i*3+1,none⟩ (nU v)) gb t pre post go l (es.set i {es.getD i ⟨0,0,0⟩with val:=v}):=by
 have h8:i<es.length:=by have:=h.e8;omega
 refine⟨h.len,h.l8,h.bytes,by rw[List.length_set];exact h.e8, ?_⟩;have:=h.blk.ak (go+(3*i+1+1)) (nU v);rw[←h.len,set_mid _ _ _ _ _ (by rw[eZ,List.length_cons,gF];omega)]at this;rw[eZ,List.set_cons_succ]at this;have e1:=M5 es i h8 {es.getD i ⟨0,0,0⟩with val:=v};have g0:=Ga es i 0 h8 (by omega);have g2:=Ga es i 2 h8 (by omega);rw[dI.getD_in h8]at e1⊢;simp only[aV,Nat.add_zero,List.getElem?_cons_zero,List.getElem?_cons_succ]at g0 g2
 have hk:(es.flatMap aV).set (3*i) (.int .u64 (es[i].key:Int))=es.flatMap aV:=by
  apply List.ext_getElem?;intro k;rw[List.getElem?_set];split
  ·next hk=>subst hk;rw[if_pos (by rw[gF];omega),g0]
  ·rfl
 have hh:((es.flatMap aV).set (3*i+1) (nU v)).set (3*i+2) (.int .u64 (es[i].hash:Int))=(es.flatMap aV).set (3*i+1) (nU v):=by
  apply List.ext_getElem?;intro k;rw[List.getElem?_set];split
  ·next hk=>subst hk;rw[if_pos (by rw[List.length_set,gF];omega),List.getElem?_set_ne (by omega),g2]
  ·rfl
 dsimp only at e1;rw[hk,hh]at e1;rw[e1]at this;rw[←h.len];rw[show pre.length+1+i*3+1=pre.length+(3*i+1+1) by omega];exact this
theorem cO.Ye (h:cO w gb t pre post go l es)(i b:Nat)(hb:b<256):cO (w.setCell ⟨gb,go,none⟩ (.int .u64 ((w8 (l.set i b):Nat):Int))) gb t pre post go (l.set i b) es:=by
 refine⟨h.len,by rw[List.length_set];exact h.l8,fun x hx=> ?_,h.e8, ?_⟩
 ·rcases List.mem_or_eq_of_mem_set hx with hx|rfl
  ·exact h.bytes x hx
  ·exact hb
 ·have:=h.blk.ak (go+0) (.int .u64 ((w8 (l.set i b):Nat):Int));rw[←h.len,set_mid _ _ _ _ _ (by simp[eZ])]at this;rw[←h.len];exact this
theorem cO.Jm (h:cO w gb t pre post go l es)(i:Nat)(hi:i<8)(e:av):cO (((w.setCell ⟨gb,go+1+i*3,none⟩ (nU e.key)).setCell ⟨gb,go+1+i*3+1,none⟩ (nU e.val)).setCell ⟨gb,go+1+i*3+2,none⟩ (nU e.hash)) gb t pre post go l (es.set i e):=by
 have h8:i<es.length:=by have:=h.e8;omega
 refine⟨h.len,h.l8,h.bytes,by rw[List.length_set];exact h.e8, ?_⟩;have:=((h.blk.ak (go+(3*i+1)) (nU e.key)).ak (go+(3*i+1+1)) (nU e.val)).ak (go+(3*i+2+1)) (nU e.hash);rw[←h.len,set_mid _ _ _ _ _ (by rw[eZ,List.length_cons,gF];omega),set_mid _ _ _ _ _ (by rw[List.length_set,eZ,List.length_cons,gF];omega),set_mid _ _ _ _ _ (by rw[List.length_set,List.length_set,eZ,List.length_cons,gF];omega)]at this;rw[eZ,List.set_cons_succ,List.set_cons_succ,List.set_cons_succ,M5 es i h8 e]at this;rw[←h.len];rw[show pre.length+1+i*3=pre.length+(3*i+1) by omega,show pre.length+(3*i+1)+1=pre.length+(3*i+1+1) by omega,show pre.length+(3*i+1)+2=pre.length+(3*i+2+1) by omega];exact this
end
theorem oJ (gb:Nat)(t:TypeId)(pre post:List Value)(go:Nat)(l:List Nat)(es:List av)(i:Nat)(hi:i<8)(must:Bool)(w:World)(h:cO w gb t pre post go l es)(hm:decide (l.getD i 0<128)=must):
  Calls Tryz.prog 220 #[bC ⟨gb,go,none⟩,nI i,.bool must] w fun e w'=>e= .returned .nilIface∧Below w.heap.size w w':=by
 have HG:=qd (FZ l h.bytes i hi);have hw:=(h.alloc (.cells #[.pointer (some ⟨gb,go,none⟩)] 201)).word
 have h1:¬(i:Int)<0:=by omega
 have h2:¬(i:Int)≥8:=by omega
 unfold bC;clear h;generalize l.getD i 0=b at*
 have hc:decide ((b:Int)<128)=must:=by rw[←hm];exact decide_eq_decide.2 (by omega)
 clear hm;cases must
 case' true=>
  have hc':(b:Int)<128:=by simpa using hc
 case' false=>
  have hc':¬(b:Int)<128:=by simpa using hc
 all_goals
  clear hc;go_in;go_wp2_with (first|(refine(HG.out _).mono ?_;rintro e w1 ⟨rfl,rfl⟩));go_ret;exact⟨rfl,(Below.refl _ _).alloc (Nat.le_refl _) _⟩
theorem Na (gb:Nat)(t:TypeId)(pre post:List Value)(go:Nat)(l:List Nat)(es:List av)(i:Nat)(hi:i<8)(w:World)(h:cO w gb t pre post go l es)(hm:¬l.getD i 0<128)(E:Nat→Addr)(hE:fJ E w 5):
  Calls Tryz.prog 220 #[bC ⟨gb,go,none⟩,nI i,.bool true] w fun e w'=>e= .returned (.iface 351 (.pointer (some (E 5))))∧Below w.heap.size w w':=by
 have HG:=qd (FZ l h.bytes i hi);have hw:=(h.alloc (.cells #[.pointer (some ⟨gb,go,none⟩)] 201)).word;have hE':(w.alloc (.cells #[.pointer (some ⟨gb,go,none⟩)] 201)).cell? ⟨6,0,none⟩=some (.iface 351 (.pointer (some (E 5)))):=hE.alloc _
 have h1:¬(i:Int)<0:=by omega
 have h2:¬(i:Int)≥8:=by omega
 unfold bC;clear h hE;generalize l.getD i 0=b at*
 have hc':¬(b:Int)<128:=by omega
 have hd':decide ((b:Int)<128)=false:=decide_eq_false hc';clear hm;go_in;go_wp2_with (first|(refine(HG.out _).mono ?_;rintro e w1 ⟨rfl,rfl⟩));go_ret;exact⟨rfl,(Below.refl _ _).alloc (Nat.le_refl _) _⟩
theorem Nb (gb:Nat)(t:TypeId)(pre post:List Value)(go:Nat)(l:List Nat)(es:List av)(i:Nat)(hi:i<8)(w:World)(h:cO w gb t pre post go l es)(hm:l.getD i 0<128):
  Calls Tryz.prog 156 #[bC ⟨gb,go,none⟩,nI i] w fun e w'=>e= .returned (.tuple #[aP (es.getD i ⟨0,0,0⟩),.bool true])∧Below w.heap.size w w':=by
 have hB:=((Below.refl w.heap.size w).alloc (Nat.le_refl _) (.cells #[.pointer (some ⟨gb,go,none⟩)] 201)).alloc (by simp) (.cells #[.int .u64 0,.int .u64 0,.int .u64 0] 166);have hV:=(aj.new w 201 #[.pointer (some ⟨gb,go,none⟩)]).alloc (.cells #[.int .u64 0,.int .u64 0,.int .u64 0] 166);have hD:=aj.new (w.alloc (.cells #[.pointer (some ⟨gb,go,none⟩)] 201)) 166 #[.int .u64 0,.int .u64 0,.int .u64 0];rw[World.size_alloc]at hD;obtain⟨W,hW⟩:∃W,W=(w.alloc (.cells #[.pointer (some ⟨gb,go,none⟩)] 201)).alloc (.cells #[.int .u64 0,.int .u64 0,.int .u64 0] 166):=⟨_,rfl⟩;rw[←hW]at hB hD hV;have hG:=h.below hB;have HF:=qd (oJ gb t pre post go l es i hi true W hG (decide_eq_true hm));have HW:=qd hW;have EO:i<8:=hi;have e0:=hG.at_ i 0 hi (by omega);rw[Nat.add_zero]at e0;have e1:=hG.at_ i 1 hi (by omega);have e2:=hG.at_ i 2 hi (by omega);unfold bC at HF⊢;unfold aP;clear hW hG h hi;generalize es.getD i ⟨0,0,0⟩=x at*;simp only[aV,List.getElem?_cons_zero,List.getElem?_cons_succ]at e0 e1 e2;go_in;go_wp2_with fail;rw[←HW.out];have v0:=hV.cell 0;simp only[List.getElem?_toArray,List.getElem?_cons_zero]at v0;go_wp2_with fail;refine(HF.out).mono ?_;rintro e w1 ⟨rfl,hb⟩;replace v0:=aI hb v0;replace e0:=aI hb e0;replace e1:=aI hb e1;replace e2:=aI hb e2;have hD1:=hD.below hb hD.lt;obtain⟨f0,f1,f2⟩:=hD1.f3;obtain⟨d0,d1,d2⟩:=hD1.c3;have hB1:=qd (bP hb hB);clear hb hB hD hV;go_wp2
 refine bodyPost_ret (v:= .tuple #[.agg #[nU x.key,nU x.val,nU x.hash],.bool true]) ?_ rfl ⟨rfl, ?_⟩
 ·simp[results,Tryz.results156,go_sem,d0,d1,d2]
 ·repeat (with_reducible first|exact hB1.out|refine Below.setCell ?_ ?_ _)
  all_goals (simp;try omega)
end
end Go.Proofs.YtnfjjbpmhcbelaaGreatDoor
