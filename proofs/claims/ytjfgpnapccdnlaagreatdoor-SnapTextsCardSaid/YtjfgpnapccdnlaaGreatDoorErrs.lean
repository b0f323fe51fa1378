/- A function's find, Get, Put, New, Pairs by their contracts. No statement of the claim. -/
import Derived.Test.YtjfgpnapccdnlaaGreatDoorPlI
import Derived.Test.YtjfgpnapccdnlaaGreatDoorBuilder
import Derived.Deep.LoopGhost
import Derived.Test.YtjfgpnapccdnlaaGreatDoorKit2
import Derived.Test.YtjfgpnapccdnlaaGreatDoorSqT
import Derived.Test.YtjfgpnapccdnlaaGreatDoorProg
import Derived.Test.YtjfgpnapccdnlaaGreatDoorKit
import Derived.WalkKit
import Derived.WalkSpells
import Derived.WalkLawsBesides
import Derived.LaidEql
import Derived.Stop.Asserts
import Derived.RowKitTokens
import Derived.KernelRfl
import Derived.Outline
namespace Go.Proofs.YtjfgpnapccdnlaaGreatDoor
set_option maxRecDepth 100000
set_option maxHeartbeats 4000000
open Go.RowKit Go.Shelf dF wF Go.Extern.Stop Go.Stop Go.Extern
theorem V7 {base:Nat}{w:World}{l:PL}{A:Option Addr}{c:Nat}(ho:w.ownsRow base 49 2 (.slice A l.length c) l.length (l.flatMap bB))(ha:jq l)(hn:l.length≤100000)(key:Nat):
  Calls Tryz.prog 113 #[.slice A l.length c,.int .u64 (key:Int),.func (.func 114) #[] #[]] w fun y w'=>y= .returned (.tuple #[.int .i64 (iy l key:Int),.bool (qV l key)])∧Below w.heap.size w w':=by
 have hlow:=JI l key;have HO:=qd ho;have HA:=qd ha;have HB:=qd (Below.refl w.heap.size w);obtain⟨lo,hlo⟩:∃lo,lo=iy l key:=⟨_,rfl⟩;rw[←hlo]at hlow;have Iw:=qd hlo;obtain⟨is,his⟩:∃is,is=qV l key:=⟨_,rfl⟩;have Ob:=qd his;rw[←hlo,←his];clear ho ha hlo his;go_in;go_wp2;go_loopw [9,10,11] (fun v9 v10 _ wr=>∃i j:Nat,i≤lo∧lo≤j∧j≤l.length∧v9= .int .i64 (i:Int)∧v10= .int .i64 (j:Int)∧Hid (Below w.heap.size w wr)) (fun v9 v10 _ _=>((intOf v10)-(intOf v9)).toNat)
 case atStart=>exact⟨0,l.length,by omega,hlow,by omega,rfl,rfl,HB⟩
 case round=>
  clear HB;obtain⟨i,j,hi,hj,hjl,rfl,rfl,HB⟩:=hrel;by_cases hij:i<j
  ·have hij':(i:Int)<(j:Int):=by omega
   obtain⟨m,hm⟩:∃m,m=(i+j)/2:=⟨_,rfl⟩
   have hw1:IntKind.i64.wrap ((i:Int)+(j:Int))=(i:Int)+(j:Int):=by rw[IntKind.wrap_i64];omega
   have hw2:IntKind.u64.wrap ((i:Int)+(j:Int))=(i:Int)+(j:Int):=by rw[IntKind.wrap_u64];omega
   have hw3:((i:Int)+(j:Int))/2=(m:Int):=by omega
   have hw4:IntKind.i64.wrap (m:Int)=(m:Int):=by rw[IntKind.wrap_i64];omega
   have hw5:IntKind.i64.wrap ((m:Int)+1)=((m+1:Nat):Int):=by rw[IntKind.wrap_i64];omega
   have hml:m<l.length:=by omega
   have hm':(m:Int)<(l.length:Int):=by omega
   have hm0:(0:Int)≤(m:Int):=by omega
   obtain⟨p,hp⟩:∃p,l[m]?=some p:=⟨_,List.getElem?_eq_getElem hml⟩;obtain⟨g,off,hA2,hgl,hc⟩:=(Reads.iC (own_below HO.out HB.out (Nat.le_refl _))).2 (by omega);have r0:wr.cell? ⟨g,off+m*2,none⟩=some (.int .u64 (p.1:Int)):=hc (m*2+0) _ (eY hp (by omega));have r1:wr.cell? ⟨g,off+m*2+1,none⟩=some (.int .u64 (p.2:Int)):=hc (m*2+1) _ (eY hp (by omega));have HK:=qd (fun(W:World)=>N8 p key W);have Fp:=qd (show m<lo↔p.1<key from by rw[Iw.out];exact xw HA.out hp);have HM:=qd (show i≤m∧m<j by omega);clear hc hp hm;subst hA2;go_wp2_with fail;refine(HK.out _).mono ?_;rintro y w2 ⟨rfl,hb2⟩;have HB2:=qd (HB.out.trans (hb2.mono HB.out.size));clear hb2;by_cases hlt:p.1<key
   ·have hcv:lq p.1 key= -1:=by unfold lq;rw[if_pos hlt]
    rw[hcv];have HI:=qd (show m+1≤lo from Fp.out.2 hlt);clear hcv;go_wp2;go_roundw
    all_goals first|exact⟨m+1,j,HI.out,hj,hjl,rfl,rfl,HB2⟩|(simp[intOf];have:=HM.out;omega)
   ·have hcv:(lq p.1 key<0)=False:=by unfold lq;rw[if_neg hlt];split<;>simp
    have hcd:decide (lq p.1 key<0)=false:=decide_eq_false (fun h=>by rw[hcv]at h;exact h);have HI:=qd (show lo≤m from by have:=Fp.out;omega);go_wp2;go_roundw
    all_goals first|exact⟨i,m,hi,HI.out,by omega,rfl,rfl,HB2⟩|(simp[intOf];have:=HM.out;omega)
  ·obtain rfl:i=lo:=by omega
   obtain rfl:j=i:=by omega
   have hni:¬(j:Int)<(j:Int):=by omega
   by_cases hjn:j<l.length
   ·have hj':(j:Int)<(l.length:Int):=by omega
    have hj0:(0:Int)≤(j:Int):=by omega
    obtain⟨p,hp⟩:∃p,l[j]?=some p:=⟨_,List.getElem?_eq_getElem hjn⟩;obtain⟨g,off,hA2,hgl,hc⟩:=(Reads.iC (own_below HO.out HB.out (Nat.le_refl _))).2 (by omega);have r0:wr.cell? ⟨g,off+j*2,none⟩=some (.int .u64 (p.1:Int)):=hc (j*2+0) _ (eY hp (by omega));have r1:wr.cell? ⟨g,off+j*2+1,none⟩=some (.int .u64 (p.2:Int)):=hc (j*2+1) _ (eY hp (by omega));have HK:=qd (fun(W:World)=>N8 p key W)
    have HIe:=qd (show is=(lq p.1 key==0)from by
     rw[Ob.out];unfold qV;rw[←Iw.out,hp,Option.any_some];unfold lq;rcases Nat.lt_trichotomy p.1 key with h|h|h
     ·rw[if_pos h];simp;omega
     ·rw[if_neg (by omega),if_neg (by omega)];simp[h]
     ·rw[if_neg (by omega),if_pos h];simp;omega)
    clear hc hp;subst hA2;go_wp2_with fail;refine(HK.out _).mono ?_;rintro y w2 ⟨rfl,hb2⟩;have HB2:=qd (HB.out.trans (hb2.mono HB.out.size));clear hb2;obtain⟨cv,hcv⟩:∃cv,cv=lq p.1 key:=⟨_,rfl⟩;have HC:=qd hcv;rw[←hcv];clear hcv;go_wp2;refine bodyPost_ret (v:= .tuple #[.int .i64 (j:Int),.bool (cv==0)]) (by simp[results,Tryz.results113,go_sem]) rfl ⟨by rw[HIe.out,HC.out],HB2.out⟩
   ·have hj':¬(j:Int)<(l.length:Int):=by omega
    have HIe:=qd (show is=false from by
     rw[Ob.out];unfold qV;rw[←Iw.out,List.getElem?_eq_none (by omega)]
     rfl)
    go_wp2;refine bodyPost_ret (v:= .tuple #[.int .i64 (j:Int),.bool false]) (by simp[results,Tryz.results113,go_sem]) rfl ⟨by rw[HIe.out],HB.out⟩
theorem abX {base most fb:Nat}{F:List Nat}{w:World}{l:PL}(h:tK base w fb most F l)(hn:l.length≤100000)(key:Nat):
  Calls Tryz.prog 73 #[.pointer (some ⟨fb,0,none⟩),.int .u64 (key:Int)] w fun y w'=>y= .returned (.tuple #[.int .i64 (iy l key:Int),.bool (qV l key)])∧Below w.heap.size w w':=by
 obtain⟨v,hB,ho,rfl,hb,ha⟩:=h;obtain⟨A,c,rfl⟩:=aH ho;have c1:=hB.cell 1;simp only[gl]at c1;have HS:=qd (V7 ho ha hn key);clear hB ho ha;go_in;go_wp2_with fail;refine HS.out.mono ?_;rintro y w1 ⟨rfl,hb1⟩;have HB1:=qd hb1;clear hb1;go_wp2;refine bodyPost_ret (v:= .tuple #[.int .i64 (iy l key:Int),.bool (qV l key)]) (by simp[results,Tryz.results73,go_sem]) rfl ⟨rfl,HB1.out⟩
theorem ac3 (most:Nat)(w:World):
  Calls Tryz.prog 36 #[.int .i64 (most:Int)] w fun y w'=>y= .returned (.pointer (some ⟨w.heap.size,0,none⟩))∧tK w.heap.size w' w.heap.size most [w.heap.size] []∧Below w.heap.size w w':=by
 go_in;go_wp2;go_ret;exact⟨rfl,⟨_,aj.new w _ _,World.ownsRow_nil _ _ _ _,rfl,Nat.le_refl _,List.Pairwise.nil⟩,(Below.refl w.heap.size w).alloc (Nat.le_refl _) _⟩
section
theorem aA {W W':World}{a:Addr}{v:Value}(hb:Below W.heap.size W W')(h:W.cell? a=some v):W'.cell? a=some v:=(hb.cell (World.block_lt_of_cell? W a h)).trans h
theorem bP {a b c:World}(hb:Below b.heap.size b c)(h:Below a.heap.size a b):Below a.heap.size a c:=h.trans (hb.mono h.size)
def sj (a l:bF)(m:Int):List Value:=[.int .i64 a.p,.int .i64 a.v,.int .i64 a.u,.int .i64 l.p,.int .i64 l.v,.int .i64 l.u,.bool false,.int .i64 m]
structure Met (w:World)(mb:Nat)(t:TypeId)(pre post:List Value)(mo:Nat)(a l:bF)(m:Int):Prop where
 len:pre.length=mo
 blk:aj w mb t (pre++(sj a l m++post)).toArray
section
variable {w w' : World} {mb mo : Nat} {t : TypeId} {pre post : List Value} {a l : bF} {m : Int}
theorem Met.at_ (h:Met w mb t pre post mo a l m)(i:Nat)(hi:i<8):w.cell? ⟨mb,mo+i,none⟩=(sj a l m)[i]?:=by
 rw[h.blk.cell,List.getElem?_toArray,List.getElem?_append_right (by have:=h.len;omega),List.getElem?_append_left (by have:=h.len;simp[sj];omega)];congr 1;have:=h.len;omega
theorem Met.uV (h:Met w mb t pre post mo a l m)(i:Nat):w.frozen? ⟨mb,i,none⟩=false:=h.blk.frozen i
theorem Met.lt (h:Met w mb t pre post mo a l m):mb<w.heap.size:=h.blk.lt
theorem Met.mod {S:List Nat}(h:Met w mb t pre post mo a l m)(hm:Mod S w w')(hg:mb∉S):Met w' mb t pre post mo a l m:=⟨h.len,h.blk.mod hm hg⟩
instance {w w':World}{mb:Nat}{t:TypeId}{pre post:List Value}{mo:Nat}{a l:bF}{m:Int}:Md (Met w mb t pre post mo a l m) w w' (Met w' mb t pre post mo a l m) (fun S=>mb∉S):=⟨fun h hm hs=>Met.mod h hm hs⟩
theorem Met.below (h:Met w mb t pre post mo a l m)(hb:Below w.heap.size w w'):Met w' mb t pre post mo a l m:=⟨h.len,h.blk.below hb h.lt⟩
theorem set_mid (pre x post:List Value)(i:Nat)(u:Value)(hi:i<x.length):(pre++(x++post)).toArray.setIfInBounds (pre.length+i) u=(pre++(x.set i u++post)).toArray:=by
 rw[List.setIfInBounds_toArray,List.set_append_right _ _ (by omega),Nat.add_sub_cancel_left,List.set_append_left _ _ hi]
theorem Met.abY (h:Met w mb t pre post mo a l m)(x:bF):Met (((w.setCell ⟨mb,mo,none⟩ (.int .i64 x.p)).setCell ⟨mb,mo+1,none⟩ (.int .i64 x.v)).setCell ⟨mb,mo+2,none⟩ (.int .i64 x.u)) mb t pre post mo x l m:=by
 refine⟨h.len, ?_⟩;have:=((h.blk.ak (mo+0) (.int .i64 x.p)).ak (mo+1) (.int .i64 x.v)).ak (mo+2) (.int .i64 x.u);rw[←h.len,set_mid _ _ _ _ _ (by simp[sj]),set_mid _ _ _ _ _ (by simp[sj]),set_mid _ _ _ _ _ (by simp[sj])]at this;rw[←h.len];exact this
theorem Met.Oc (h:Met w mb t pre post mo a l m)(x:bF):Met (((w.setCell ⟨mb,mo+3,none⟩ (.int .i64 x.p)).setCell ⟨mb,mo+3+1,none⟩ (.int .i64 x.v)).setCell ⟨mb,mo+3+2,none⟩ (.int .i64 x.u)) mb t pre post mo a x m:=by
 refine⟨h.len, ?_⟩;have:=((h.blk.ak (mo+3) (.int .i64 x.p)).ak (mo+4) (.int .i64 x.v)).ak (mo+5) (.int .i64 x.u);rw[←h.len,set_mid _ _ _ _ _ (by simp[sj]),set_mid _ _ _ _ _ (by simp[sj]),set_mid _ _ _ _ _ (by simp[sj])]at this;rw[←h.len];exact this
end
def xB (w:World)(mb:Nat)(t:TypeId)(pre post:List Value)(mo:Nat)(a l:bF)(m:Int)(c:bF)(e:Ending)(w':World):Prop:=
 e= .returned undef∧Met w' mb t pre post mo (je a c) (je l c) m∧Mod [mb] w w'
theorem KO (mb:Nat)(t:TypeId)(pre post:List Value)(mo:Nat)(a l:bF)(m:Int)(c:bF)(w:World)(h:Met w mb t pre post mo a l m):
  Calls Tryz.prog 161 #[.pointer (some ⟨mb,mo,none⟩),oJ c] w (xB w mb t pre post mo a l m c):=by
 have HP:=qd (fun(x:bF) (V:World)=>show Calls Tryz.prog 63 #[.agg #[.int .i64 x.p,.int .i64 x.v,.int .i64 x.u],.agg #[.int .i64 c.p,.int .i64 c.v,.int .i64 c.u]] V (fun e w'=>e= .returned (.agg #[.int .i64 (je x c).p,.int .i64 (je x c).v,.int .i64 (je x c).u])∧Below V.heap.size V w')from Bt x c V);unfold oJ;have hB0:=(Below.refl w.heap.size w).alloc (Nat.le_refl _) (.cells #[.int .i64 c.p,.int .i64 c.v,.int .i64 c.u] 87);have hM:=h.below hB0;have hC:=aj.new w 87 #[.int .i64 c.p,.int .i64 c.v,.int .i64 c.u];have hlt:=h.lt;obtain⟨W,hW⟩:∃W,W=w.alloc (.cells #[.int .i64 c.p,.int .i64 c.v,.int .i64 c.u] 87):=⟨_,rfl⟩;obtain⟨p,hp⟩:∃p,p=w.heap.size:=⟨_,rfl⟩;rw[←hW]at hB0 hM hC;rw[←hp]at hC;have m0:W.cell? ⟨mb,mo,none⟩=some (.int .i64 a.p):=hM.at_ 0 (by omega);have m1:W.cell? ⟨mb,mo+1,none⟩=some (.int .i64 a.v):=hM.at_ 1 (by omega);have m2:W.cell? ⟨mb,mo+2,none⟩=some (.int .i64 a.u):=hM.at_ 2 (by omega);have m3:W.cell? ⟨mb,mo+3,none⟩=some (.int .i64 l.p):=hM.at_ 3 (by omega);have m4:W.cell? ⟨mb,mo+3+1,none⟩=some (.int .i64 l.v):=hM.at_ 4 (by omega);have m5:W.cell? ⟨mb,mo+3+2,none⟩=some (.int .i64 l.u):=hM.at_ 5 (by omega);obtain⟨c0,c1,c2⟩:=hC.c3;have HW:=qd (And.intro hp hW);have HB0:=qd hB0;clear hW hp hC h hB0;go_in;go_upto_region 1 with fail;rw[←HW.out.2,←HW.out.1]
 refine rT (fun w'=>(w'.cell? ⟨mb,mo,none⟩=some (.int .i64 a.p)∧w'.cell? ⟨mb,mo+1,none⟩=some (.int .i64 a.v)∧w'.cell? ⟨mb,mo+2,none⟩=some (.int .i64 a.u)∧w'.cell? ⟨mb,mo+3,none⟩=some (.int .i64 l.p)∧w'.cell? ⟨mb,mo+3+1,none⟩=some (.int .i64 l.v)∧w'.cell? ⟨mb,mo+3+2,none⟩=some (.int .i64 l.u)∧w'.cell? ⟨p,0,none⟩=some (.int .i64 c.p)∧w'.cell? ⟨p,1,none⟩=some (.int .i64 c.v)∧w'.cell? ⟨p,2,none⟩=some (.int .i64 c.u))∧Below W.heap.size W w') [16,19] ?_;have hHeld:(fun w'=>(w'.cell? ⟨mb,mo,none⟩=some (.int .i64 a.p)∧w'.cell? ⟨mb,mo+1,none⟩=some (.int .i64 a.v)∧w'.cell? ⟨mb,mo+2,none⟩=some (.int .i64 a.u)∧w'.cell? ⟨mb,mo+3,none⟩=some (.int .i64 l.p)∧w'.cell? ⟨mb,mo+3+1,none⟩=some (.int .i64 l.v)∧w'.cell? ⟨mb,mo+3+2,none⟩=some (.int .i64 l.u)∧w'.cell? ⟨p,0,none⟩=some (.int .i64 c.p)∧w'.cell? ⟨p,1,none⟩=some (.int .i64 c.v)∧w'.cell? ⟨p,2,none⟩=some (.int .i64 c.u))∧Below W.heap.size W w') (World.drew W):=⟨⟨m0,m1,m2,m3,m4,m5,c0,c1,c2⟩,(Below.refl _ _).drew⟩;refine vW 0 rfl ?_;refine vW 1 rfl ?_;refine vW 2 rfl ?_;refine vW 3 rfl ?_;refine vW 4 rfl ?_;refine vT 5 rfl ?_;refine vT 6 rfl ?_;refine vW 8 rfl ?_;refine vW 9 rfl ?_;refine vW 10 rfl ?_;refine vT 11 rfl ?_;refine vT 12 rfl ?_;refine nT 7 rfl fun K hK=> ?_;go_simp;refine(HP.out a _).mono ?_;rintro e w1 ⟨rfl,hb1⟩;replace hb1:Below W.heap.size W w1:=bP hb1 (Below.refl _ _).drew;go_wp2_with fail
 have hHeld:=show(fun w'=>(w'.cell? ⟨mb,mo,none⟩=some (.int .i64 a.p)∧w'.cell? ⟨mb,mo+1,none⟩=some (.int .i64 a.v)∧w'.cell? ⟨mb,mo+2,none⟩=some (.int .i64 a.u)∧w'.cell? ⟨mb,mo+3,none⟩=some (.int .i64 l.p)∧w'.cell? ⟨mb,mo+3+1,none⟩=some (.int .i64 l.v)∧w'.cell? ⟨mb,mo+3+2,none⟩=some (.int .i64 l.u)∧w'.cell? ⟨p,0,none⟩=some (.int .i64 c.p)∧w'.cell? ⟨p,1,none⟩=some (.int .i64 c.v)∧w'.cell? ⟨p,2,none⟩=some (.int .i64 c.u))∧Below W.heap.size W w') _ from⟨⟨aA hb1 m0,aA hb1 m1,aA hb1 m2,aA hb1 m3,aA hb1 m4,aA hb1 m5,aA hb1 c0,aA hb1 c1,aA hb1 c2⟩,hb1⟩;refine kO hK ?_;clear hK K;refine nT 13 rfl fun K hK=> ?_;go_simp;refine(HP.out l _).mono ?_;rintro e w2 ⟨rfl,hb2⟩;replace hb2:Below W.heap.size W w2:=bP hb2 hb1;have hM2:=hM.below hb2;have fz:=hM2.uV;have n0:=aA hb2 m0;have n1:=aA hb2 m1;have n2:=aA hb2 m2;have n3:=aA hb2 m3;have n4:=aA hb2 m4;have n5:=aA hb2 m5;have g0:=fz mo;have g1:=fz (mo+1);have g2:=fz (mo+2);have g3:=fz (mo+3);have g4:=fz (mo+3+1);have g5:=fz (mo+3+2);clear fz;go_wp2_with fail
 have hHeld:=show(fun w'=>(w'.cell? ⟨mb,mo,none⟩=some (.int .i64 a.p)∧w'.cell? ⟨mb,mo+1,none⟩=some (.int .i64 a.v)∧w'.cell? ⟨mb,mo+2,none⟩=some (.int .i64 a.u)∧w'.cell? ⟨mb,mo+3,none⟩=some (.int .i64 l.p)∧w'.cell? ⟨mb,mo+3+1,none⟩=some (.int .i64 l.v)∧w'.cell? ⟨mb,mo+3+2,none⟩=some (.int .i64 l.u)∧w'.cell? ⟨p,0,none⟩=some (.int .i64 c.p)∧w'.cell? ⟨p,1,none⟩=some (.int .i64 c.v)∧w'.cell? ⟨p,2,none⟩=some (.int .i64 c.u))∧Below W.heap.size W w') _ from⟨⟨aA hb2 m0,aA hb2 m1,aA hb2 m2,aA hb2 m3,aA hb2 m4,aA hb2 m5,aA hb2 c0,aA hb2 c1,aA hb2 c2⟩,hb2⟩;refine kO hK ?_;clear hK K;refine vW 14 rfl ?_;refine vW 15 rfl ?_;refine nT 16 rfl fun K hK=> ?_;go_simp;refine kO hK ?_;clear hK K;refine vL 17 rfl ?_;refine vL 18 rfl ?_;refine nT 19 rfl fun K hK=> ?_;go_simp;refine kO hK ?_;clear hK K;refine aX (by kernel_rfl) ?_ _;go_wp2;go_end0;exact⟨rfl,(hM2.abY _).Oc _,((((((Mod.of_below (HB0.out.trans (hb2.mono HB0.out.size)) [mb]).ak (.inl (by simp)) _ _).ak (.inl (by simp)) _ _).ak (.inl (by simp)) _ _).ak (.inl (by simp)) _ _).ak (.inl (by simp)) _ _).ak (.inl (by simp)) _ _⟩
end
def aN (p:Option Addr)(c:bF):Value:= .agg #[.pointer p,.int .i64 c.p,.int .i64 c.v,.int .i64 c.u]
theorem nJ (p:Option Addr)(w:World):Calls Tryz.prog 60 #[.pointer p] w fun e w'=>e= .returned (aN p ⟨1,0,0⟩)∧Below w.heap.size w w':=by
 unfold aN;go_in;go_wp2;exact bodyPost_ret (v:= .agg #[.pointer p,.int .i64 1,.int .i64 0,.int .i64 0]) (by simp[results,Tryz.results60,go_sem]) rfl ⟨rfl,(Below.refl _ _).alloc (Nat.le_refl _) _⟩
theorem vQ (p:Option Addr)(w:World):Calls Tryz.prog 309 #[.pointer p] w fun e w'=>e= .returned (aN p ⟨0,1,0⟩)∧Below w.heap.size w w':=by
 unfold aN;go_in;go_wp2;exact bodyPost_ret (v:= .agg #[.pointer p,.int .i64 0,.int .i64 1,.int .i64 0]) (by simp[results,Tryz.results309,go_sem]) rfl ⟨rfl,(Below.refl _ _).alloc (Nat.le_refl _) _⟩
theorem JM (c:bF)(w:World):Calls Tryz.prog 198 #[aN none c] w fun e w'=>e= .returned undef∧Below w.heap.size w w':=by
 unfold aN;go_in;go_wp2;go_end0;exact⟨rfl,(Below.refl _ _).alloc (Nat.le_refl _) _⟩
theorem xB.from {w w1 w':World}{mb:Nat}{t:TypeId}{pre post:List Value}{mo:Nat}{a l:bF}{m:Int}{c:bF}{e:Ending}(h:xB w1 mb t pre post mo a l m c e w')(hb:Below w.heap.size w w1):xB w mb t pre post mo a l m c e w':=
 ⟨h.1,h.2.1,(Mod.of_below hb [mb]).then h.2.2⟩
theorem TS (mb:Nat)(t:TypeId)(pre post:List Value)(mo:Nat)(a l:bF)(m:Int)(c:bF)(w:World)(h:Met w mb t pre post mo a l m):
  Calls Tryz.prog 198 #[aN (some ⟨mb,mo,none⟩) c] w (xB w mb t pre post mo a l m c):=by
 unfold aN;have hB:=(Below.refl w.heap.size w).alloc (Nat.le_refl _) (.cells #[.pointer (some ⟨mb,mo,none⟩),.int .i64 c.p,.int .i64 c.v,.int .i64 c.u] 145);have HA:=qd (show Calls Tryz.prog 161 #[.pointer (some ⟨mb,mo,none⟩),.agg #[.int .i64 c.p,.int .i64 c.v,.int .i64 c.u]] (w.alloc (.cells #[.pointer (some ⟨mb,mo,none⟩),.int .i64 c.p,.int .i64 c.v,.int .i64 c.u] 145)) _ from KO mb t pre post mo a l m c _ (h.below hB));have HB:=qd hB;clear h hB;go_in;go_wp2_with fail;refine HA.out.mono ?_;rintro e w1 ⟨rfl,hM,hm⟩;go_wp2;go_end0;exact⟨rfl,hM,(Mod.of_below HB.out [mb]).then hm⟩
theorem Fq (mb:Nat)(t:TypeId)(pre post:List Value)(mo:Nat)(a l:bF)(m:Int)(w:World)(h:Met w mb t pre post mo a l m):
  Calls Tryz.prog 57 #[.pointer (some ⟨mb,mo,none⟩)] w fun e w'=>e= .returned undef∧Met w' mb t pre post mo a ⟨0,0,0⟩ m∧Mod [mb] w w':=by
 have m3:w.cell? ⟨mb,mo+3,none⟩=some (.int .i64 l.p):=h.at_ 3 (by omega);have m4:w.cell? ⟨mb,mo+3+1,none⟩=some (.int .i64 l.v):=h.at_ 4 (by omega);have m5:w.cell? ⟨mb,mo+3+2,none⟩=some (.int .i64 l.u):=h.at_ 5 (by omega);have g3:=h.uV (mo+3);have g4:=h.uV (mo+3+1);have g5:=h.uV (mo+3+2);have HM:=qd h;clear h;go_in;go_wp2;go_end0;exact⟨rfl,HM.out.Oc ⟨0,0,0⟩,(((Mod.refl [mb] w).ak (.inl (by simp)) _ _).ak (.inl (by simp)) _ _).ak (.inl (by simp)) _ _⟩
theorem sw (mb:Nat)(t:TypeId)(pre post:List Value)(mo:Nat)(a l:bF)(m n:Int)(hn:1≤n)(w:World)(h:Met w mb t pre post mo a l m):
  Calls Tryz.prog 102 #[.pointer (some ⟨mb,mo,none⟩),.int .i64 n] w (xB w mb t pre post mo a l m ⟨0,0,n⟩):=by
 have m6:w.cell? ⟨mb,mo+6,none⟩=some (.bool false):=h.at_ 6 (by omega)
 have hn':¬n<1:=by omega
 have hz:=(Below.refl w.heap.size w).drew;have HA:=qd (show Calls Tryz.prog 161 #[.pointer (some ⟨mb,mo,none⟩),.agg #[.int .i64 0,.int .i64 0,.int .i64 n]] w.drew _ from KO mb t pre post mo a l m ⟨0,0,n⟩ _ (h.below hz));clear h hn;go_in;go_wp2;refine rT (fun w'=>w'.cell? ⟨mb,mo+6,none⟩=some (.bool false)) [] ?_;have hHeld:=m6;refine vW 0 rfl ?_;refine vW 1 rfl ?_;refine vW 2 rfl ?_;refine vT 3 rfl ?_;refine vW 4 rfl ?_;refine vU 5 rfl ?_;refine vU 6 rfl ?_;refine vU 7 rfl ?_;refine vU 8 rfl ?_;refine vU 9 rfl ?_;refine vU 10 rfl ?_;refine vU 11 rfl ?_;refine vU 12 rfl ?_;refine vU 13 rfl ?_;refine vU 14 rfl ?_;refine vU 15 rfl ?_;refine vU 16 rfl ?_;refine vW 17 rfl ?_;refine aX (by kernel_rfl) ?_ _;go_wp2_with fail;refine HA.out.mono ?_;rintro e w1 ⟨rfl,hM,hm⟩;go_wp2;go_end0;exact⟨rfl,hM,(Mod.of_below hz [mb]).then hm⟩
def bg (g:Addr):Value:= .agg #[.pointer (some g)]
theorem JN (g:Addr)(c:bF)(w:World):Calls Tryz.prog 132 #[.pointer (some g),aN none c] w fun e w'=>e= .returned (bg g)∧Below w.heap.size w w':=by
 have hB:=((Below.refl w.heap.size w).alloc (Nat.le_refl _) (.cells #[.pointer none,.int .i64 c.p,.int .i64 c.v,.int .i64 c.u] 145)).alloc (by simp) (.cells #[.pointer none] 198);have hD:=aj.new (w.alloc (.cells #[.pointer none,.int .i64 c.p,.int .i64 c.v,.int .i64 c.u] 145)) 198 #[.pointer none];rw[World.size_alloc]at hD;obtain⟨W,hW⟩:∃W,W=(w.alloc (.cells #[.pointer none,.int .i64 c.p,.int .i64 c.v,.int .i64 c.u] 145)).alloc (.cells #[.pointer none] 198):=⟨_,rfl⟩;rw[←hW]at hB hD;have HV:=qd (JM c W);unfold aN at HV⊢
 try unfold bg
 have HW:=qd hW;clear hW;go_in;go_wp2_with fail;rw[←HW.out];refine(HV.out).mono ?_;rintro e w1 ⟨rfl,hb⟩;have hD1:=hD.below hb hD.lt;have d0:=hD1.cell 0;have f0:=hD1.frozen 0;simp only[List.getElem?_toArray,List.getElem?_cons_zero]at d0;have hbw:=hB.trans (hb.mono hB.size);go_wp2;exact bodyPost_ret (v:= .agg #[.pointer (some g)]) (by simp[results,Tryz.results132,go_sem,d0]) rfl ⟨rfl,hbw.setCell (p:=⟨w.heap.size+1,0,none⟩) (by simp) _⟩
def Y3 (w:World)(mb:Nat)(t:TypeId)(pre post:List Value)(mo:Nat)(a l:bF)(m:Int)(c:bF)(g:Addr)(e:Ending)(w':World):Prop:=
 e= .returned (bg g)∧Met w' mb t pre post mo (je a c) (je l c) m∧Mod [mb] w w'
theorem wR (g:Addr)(mb:Nat)(t:TypeId)(pre post:List Value)(mo:Nat)(a l:bF)(m:Int)(c:bF)(w:World)(h:Met w mb t pre post mo a l m):Calls Tryz.prog 132 #[.pointer (some g),aN (some ⟨mb,mo,none⟩) c] w (Y3 w mb t pre post mo a l m c g):=by
 have hB:=((Below.refl w.heap.size w).alloc (Nat.le_refl _) (.cells #[.pointer (some ⟨mb,mo,none⟩),.int .i64 c.p,.int .i64 c.v,.int .i64 c.u] 145)).alloc (by simp) (.cells #[.pointer none] 198);have hD:=aj.new (w.alloc (.cells #[.pointer (some ⟨mb,mo,none⟩),.int .i64 c.p,.int .i64 c.v,.int .i64 c.u] 145)) 198 #[.pointer none];rw[World.size_alloc]at hD;obtain⟨W,hW⟩:∃W,W=(w.alloc (.cells #[.pointer (some ⟨mb,mo,none⟩),.int .i64 c.p,.int .i64 c.v,.int .i64 c.u] 145)).alloc (.cells #[.pointer none] 198):=⟨_,rfl⟩;rw[←hW]at hB hD;have hlt:=h.lt;have HV:=qd (TS mb t pre post mo a l m c W (h.below hB));clear h;unfold aN at HV⊢
 try unfold bg
 have HW:=qd hW;clear hW;go_in;go_wp2_with fail;rw[←HW.out];refine(HV.out).mono ?_;rintro e w1 ⟨rfl,hM,hm⟩
 have hne:w.heap.size+1≠mb:=by omega
 have hD1:=hD.mod hm (by simpa using hne);have d0:=hD1.cell 0;have f0:=hD1.frozen 0;simp only[List.getElem?_toArray,List.getElem?_cons_zero]at d0;have hbw:=(Mod.of_below hB [mb]).then hm;go_wp2;exact bodyPost_ret (v:= .agg #[.pointer (some g)]) (by simp[results,Tryz.results132,go_sem,d0]) rfl ⟨rfl,⟨hM.len,hM.blk.far (p:=⟨w.heap.size+1,0,none⟩) (fun e=>hne e.symm) _⟩,hbw.ak (.inr (by simp)) _ _⟩
section
variable {E : Nat → Addr} {w w' : World} {B j : Nat}
theorem Od (v:Value)(w:World):(Extern.ReflectliteType.typeOf #[.iface 391 v]).run Tryz.prog w= .ok (.iface 172 (.agg #[.pointer (some ⟨27,391,none⟩)])) w:=by kernel_rfl
def Y4:Array Value→Sem Value:=Extern.ReflectliteType.method fun t=>do Extern.Rtype.noPackHeld "Comparable" t;pure (.bool (←typeInfo t).comparable)
theorem Dc (w:World):(Y4 #[.agg #[.pointer (some ⟨27,391,none⟩)]]).run Tryz.prog w= .ok (.bool true) w:=by kernel_rfl
theorem uW (v:Value)(w:World):(Go.method 540 172 v "Comparable").run Tryz.prog w= .ok (326,v) w:=by kernel_rfl
theorem V8:(Tryz.prog.info? 391).map (·.comparable)=some true:=by kernel_rfl
theorem V9:(Tryz.prog.info? 393).map (·.size)=some 1:=by kernel_rfl
theorem aep (v:Value)(xT:TypeId)(w:World):(Instr.typeAssert (.iface 391 v) xT 174 true).run Tryz.prog w= .ok (.tuple #[.nilIface,.bool false]) w:=run_typeAssert_lacksB Tryz.underlying174 (by kernel_rfl) (by kernel_rfl) v xT w
theorem Wd (v:Value)(xT:TypeId)(w:World):(Instr.typeAssert (.iface 391 v) xT 177 true).run Tryz.prog w= .ok (.tuple #[.nilIface,.bool false]) w:=run_typeAssert_lacksB Tryz.underlying177 (by kernel_rfl) (by kernel_rfl) v xT w
theorem TT (v:Value)(xT:TypeId)(w:World):(Instr.typeAssert (.iface 391 v) xT 178 true).run Tryz.prog w= .ok (.tuple #[.nilIface,.bool false]) w:=run_typeAssert_lacksB Tryz.underlying178 (by kernel_rfl) (by kernel_rfl) v xT w
def agy (a:Addr):Value:= .iface 391 (.pointer (some a))
theorem RS (a:Addr)(w:World):
  Calls Tryz.prog 25 #[.iface 391 (.pointer (some a)),.iface 391 (.pointer (some a))] w fun e w'=>e= .returned (.bool true)∧w=w':=by
 obtain⟨i,hi,hcmp⟩:=Option.map_eq_some_iff.1 V8;obtain⟨j,hj,hjs⟩:=Option.map_eq_some_iff.1 V9;have h8:=@run_callFunc_extern Tryz.prog 50 _ Extern.ReflectliteType.typeOf Tryz.func50 (by kernel_rfl) (by kernel_rfl) (by kernel_rfl) (by kernel_rfl);have h32:=@run_callFunc_extern Tryz.prog 326 _ Y4 Tryz.func326 (by kernel_rfl) (by kernel_rfl) (by kernel_rfl) (by kernel_rfl);have tT:=Od;have cT:=Dc;have mR:=uW;have heq:=run_eql_iface_ptr_same (P:=Tryz.prog) w a Tryz.underlying32 Tryz.underlying391 hi hcmp hj;go_in;go_wp2;refine wp_loop_rounds 1 ?_;rw[rounds_succ];go_wp2;go_ret;exact⟨rfl,rfl⟩
theorem Y5 (a b:Addr)(ca cb:Array Value)(ta tb:TypeId)(w:World)(hne:a≠b)(ha:w.heap[a.block]?=some (.cells ca ta (0,0)))(hb:w.heap[b.block]?=some (.cells cb tb (0,0))):
  Calls Tryz.prog 25 #[.iface 391 (.pointer (some a)),.iface 391 (.pointer (some b))] w fun e w'=>e= .returned (.bool false)∧w=w':=by
 obtain⟨i,hi,hcmp⟩:=Option.map_eq_some_iff.1 V8;obtain⟨j,hj,hjs⟩:=Option.map_eq_some_iff.1 V9;have h8:=@run_callFunc_extern Tryz.prog 50 _ Extern.ReflectliteType.typeOf Tryz.func50 (by kernel_rfl) (by kernel_rfl) (by kernel_rfl) (by kernel_rfl);have h32:=@run_callFunc_extern Tryz.prog 326 _ Y4 Tryz.func326 (by kernel_rfl) (by kernel_rfl) (by kernel_rfl) (by kernel_rfl);have tT:=Od;have cT:=Dc;have mR:=uW;have nE:=aep;have uE:=Wd;have vE:=TT;have heq:=run_eql_iface_ptr_other (P:=Tryz.prog) w Tryz.underlying32 Tryz.underlying391 hi hcmp hj (by rw[hjs];decide) hne ha hb;go_in;go_wp2;refine wp_loop_rounds 1 ?_;rw[rounds_succ];go_wp2;go_ret;exact⟨rfl,rfl⟩
def gE:Nat→Nat
 |1=>4 |2=>5 |3=>3 |4=>1 |5=>6 |6=>7 |7=>8 |8=>9
 |9=>2 |10=>10 |11=>11 |12=>12 |13=>13 |14=>14 |15=>15 |_=>0
structure eU (E:Nat→Addr)(w:World):Prop where
 cell:∀k,1≤k→k≤16→w.cell? ⟨gE k,0,none⟩=some (.iface 391 (.pointer (some (E k))))
 obj:∀k,1≤k→k≤16→∃c t,w.heap[(E k).block]?=some (.cells c t (0,0))
 inj:∀j k,1≤j→j≤16→1≤k→k≤16→E j=E k→j=k
theorem eU.of_block (h:eU E w)(hb:∀k,k<w.heap.size→w'.heap[k]?=w.heap[k]?):eU E w':=by
 refine⟨fun k h1 h2=> ?_,fun k h1 h2=> ?_,h.inj⟩
 ·have hc:=h.cell k h1 h2;rw[World.cell?_of_block (w:=w) (hb _ (World.block_lt_of_cell? w _ hc))];exact hc
 ·obtain⟨c,t,ho⟩:=h.obj k h1 h2;have:(E k).block<w.heap.size:=(Array.getElem?_eq_some_iff.1 ho).1;exact⟨c,t,(hb _ this).trans ho⟩
theorem eU.below (h:eU E w)(hb:Below B w w')(hB:w.heap.size≤B):eU E w':=h.of_block fun k hk=>hb.block k (by omega)
theorem eU.alloc (h:eU E w)(o:Obj):eU E (w.alloc o):=h.of_block fun k hk=>Below.heap_alloc w o k hk
theorem eU.drew (h:eU E w):eU E w.drew:=h.of_block fun _ _=>rfl
theorem eU.drewN (h:eU E w)(n:Nat):eU E (w.drewN n):=h.of_block fun _ _=>rfl
def dL (E:Nat→Addr)(w:World)(k:Nat):Prop:=w.cell? ⟨gE k,0,none⟩=some (.iface 391 (.pointer (some (E k))))
theorem dL.of_block (h:dL E w j)(hb:∀k,k<w.heap.size→w'.heap[k]?=w.heap[k]?):dL E w' j:=
 (World.cell?_of_block (hb _ (World.block_lt_of_cell? w _ h))).trans h
theorem dL.below (h:dL E w j)(hb:Below B w w')(hB:w.heap.size≤B):dL E w' j:=h.of_block fun k hk=>hb.block k (by omega)
theorem dL.alloc (h:dL E w j)(o:Obj):dL E (w.alloc o) j:=h.of_block fun k hk=>Below.heap_alloc w o k hk
theorem dL.drewN (h:dL E w j)(n:Nat):dL E (w.drewN n) j:=h.of_block fun _ _=>rfl
theorem eU.at_ (h:eU E w)(k:Nat)(h1:1≤k)(h2:k≤16):dL E w k:=h.cell k h1 h2
def jO (E:Nat→Addr)(k:Nat):Value:=if k=0 then .nilIface else .iface 391 (.pointer (some (E k)))
theorem KP (E:Nat→Addr):jO E 0= .nilIface:=rfl
theorem iL (E:Nat→Addr){k:Nat}(h:1≤k):jO E k= .iface 391 (.pointer (some (E k))):=by unfold jO;rw[if_neg (by omega)]
theorem abZ (h:eU E w)(j k:Nat)(h1:1≤j)(h2:j≤16)(h3:1≤k)(h4:k≤16):
  Calls Tryz.prog 25 #[.iface 391 (.pointer (some (E j))),.iface 391 (.pointer (some (E k)))] w fun e w'=>e= .returned (.bool (j==k))∧w=w':=by
 by_cases hjk:j=k
 ·subst hjk;exact(RS (E j) w).mono fun e w' ⟨he,hw⟩=>⟨by rw[he];simp,hw⟩
 ·obtain⟨c,t,ho⟩:=h.obj j h1 h2;obtain⟨c',t',ho'⟩:=h.obj k h3 h4;exact(Y5 (E j) (E k) c c' t t' w (fun e=>hjk (h.inj j k h1 h2 h3 h4 e)) ho ho').mono fun e w' ⟨he,hw⟩=>⟨by rw[he];simp[hjk],hw⟩
def qI (E:Nat→Addr):List Value:=(List.range 16).map fun i=> .iface 391 (.pointer (some (E (i+1))))
theorem ab0 (h:eU E w):
  Calls Tryz.prog 24 #[] w fun e w'=>e= .returned (.slice (some ⟨w.heap.size,0,none⟩) 16 16)∧w.alloc (.cells (qI E).toArray 32)=w':=by
 have h1:=h.cell 1 (by omega) (by omega);have h2:=h.cell 2 (by omega) (by omega);have h3:=h.cell 3 (by omega) (by omega);have h4:=h.cell 4 (by omega) (by omega);have h5:=h.cell 5 (by omega) (by omega);have h6:=h.cell 6 (by omega) (by omega);have h7:=h.cell 7 (by omega) (by omega);have h8:=h.cell 8 (by omega) (by omega);have h9:=h.cell 9 (by omega) (by omega);have h10:=h.cell 10 (by omega) (by omega);have h11:=h.cell 11 (by omega) (by omega);have h12:=h.cell 12 (by omega) (by omega);have h13:=h.cell 13 (by omega) (by omega);have h14:=h.cell 14 (by omega) (by omega);have h15:=h.cell 15 (by omega) (by omega);have h16:=h.cell 16 (by omega) (by omega);simp only[gE]at h1 h2 h3 h4 h5 h6 h7 h8 h9 h10 h11 h12 h13 h14 h15 h16;go_in;go_wp2;go_ret;exact⟨rfl,rfl⟩
theorem ab1 (w:World):Calls Tryz.prog 12 #[.nilIface] w fun e w'=>e= .returned (.int .i64 0)∧w=w':=by
 go_in;go_wp2;go_ret;exact⟨rfl,rfl⟩
end
end Go.Proofs.YtjfgpnapccdnlaaGreatDoor
