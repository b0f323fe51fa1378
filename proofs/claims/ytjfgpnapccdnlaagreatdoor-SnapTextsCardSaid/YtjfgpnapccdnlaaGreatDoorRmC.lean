/- What a map lets go a few at a time, and what it counts. No statement of the claim. -/
import Derived.Test.YtjfgpnapccdnlaaGreatDoorErrs
import Derived.Test.YtjfgpnapccdnlaaGreatDoorKit2
import Derived.Test.YtjfgpnapccdnlaaGreatDoorSqT
import Derived.Test.YtjfgpnapccdnlaaGreatDoorBuilder
import Derived.Test.YtjfgpnapccdnlaaGreatDoorWordsT
import Derived.Test.YtjfgpnapccdnlaaGreatDoorCoBQ
import Derived.Test.YtjfgpnapccdnlaaGreatDoorCoAB
import Derived.Test.YtjfgpnapccdnlaaGreatDoorCoDA
namespace Go.Proofs.YtjfgpnapccdnlaaGreatDoor
set_option maxRecDepth 100000
set_option maxHeartbeats 4000000
open Go.RowKit dF
section
section
variable {w : World} {b o : Nat} {t : TypeId} {cs : Array Value}
theorem XV {n:Nat}(hp:1≤n∧n≤1099511627776)(h:aj w b t cs)(hn:cs[o]?=some (.int .i64 (n:Int))):Calls Tryz.prog 169 #[.pointer (some ⟨b,o,none⟩),.int .i64 1] w fun e w'=>e= .returned (.bool true)∧aj w' b t (cs.setIfInBounds o (.int .i64 ((n-1:Nat):Int)))∧Mod [b] w w':=by
 obtain⟨b0,b1⟩:=hp
 have hx1:¬(1:Int)>(n:Int):=by omega
 have c0:=(h.cell o).trans hn;have f0:=h.frozen o;have HS:=qd (And.intro (h.ak o (.int .i64 ((n-1:Nat):Int))) ((Mod.refl [b] w).sl o (.int .i64 ((n-1:Nat):Int))))
 have he:(n:Int)-1=((n-1:Nat):Int):=by omega
 clear h hn;go_in;go_wp2;go_ret;exact⟨rfl,HS.out⟩
theorem Qp (h:aj w b t cs)(hn:cs[o]?=some (.int .i64 0)):Calls Tryz.prog 169 #[.pointer (some ⟨b,o,none⟩),.int .i64 1] w fun e w'=>e= .returned (.bool false)∧w=w':=by
 have c0:=(h.cell o).trans hn;clear h hn;go_in;go_wp2;go_ret;exact⟨rfl,rfl⟩
theorem Rs {n k:Nat}(hp:n≤1099511627776∧k≤1099511627776)(h:aj w b t cs)(hn:cs[o]?=some (.int .i64 (n:Int))):Calls Tryz.prog 170 #[.pointer (some ⟨b,o,none⟩),.int .i64 (k:Int)] w fun e w'=>∃d,d≤k∧n+d≤1099511627776∧e= .returned (.int .i64 (d:Int))∧aj w' b t (cs.setIfInBounds o (.int .i64 ((n+d:Nat):Int)))∧Mod [b] w w':=by
 obtain⟨b0,b1⟩:=hp;have c0:=(h.cell o).trans hn;have f0:=h.frozen o;have HS:=qd (fun u=>And.intro (h.ak o u) ((Mod.refl [b] w).sl o u))
 have hw1:IntKind.i64.wrap (1099511627776-(n:Int))=((1099511627776-n:Nat):Int):=by rw[IntKind.wrap_i64];omega
 have hx0:¬(k:Int)<0:=by omega
 clear h hn;by_cases hk:k≤1099511627776-n
 ·have hx1:¬((1099511627776-n:Nat):Int)<(k:Int):=by omega
  have hx2:max (k:Int) 0=(k:Int):=by omega
  have hx3:min (k:Int) ((1099511627776-n:Nat):Int)=(k:Int):=by omega
  have hw2:IntKind.i64.wrap ((n:Int)+(k:Int))=((n+k:Nat):Int):=by rw[IntKind.wrap_i64];omega
  go_in;go_wp2;go_ret;exact⟨k,Nat.le_refl _,by omega,rfl,HS.out _⟩
 ·obtain⟨d,hd⟩:∃d,d=1099511627776-n:=⟨_,rfl⟩;rw[←hd]at hw1
  have hx1:(d:Int)<(k:Int):=by omega
  have hx2:max (k:Int) 0=(k:Int):=by omega
  have hx3:min (k:Int) (d:Int)=(d:Int):=by omega
  have hw2:IntKind.i64.wrap ((n:Int)+(d:Int))=((n+d:Nat):Int):=by rw[IntKind.wrap_i64];omega
  have HD:=qd (show d≤k∧n+d≤1099511627776 from by omega);clear hd hk;go_in;go_wp2;go_ret;exact⟨d,HD.out.1,HD.out.2,rfl,HS.out _⟩
end
structure iw where
 k:Int
 m:Int
 i:Int
 cb:Nat
 lf:Nat
 gn:Nat
 ma:bF
 ml:bF
 ib:Nat
 last:bF
 all:bF
def iw.cells (c:iw):Array Value:= #[.int .i64 c.k,.int .i64 c.m,.int .i64 c.i,.pointer (some ⟨c.cb,0,none⟩),.int .i64 (c.lf:Int),.float .f64 0,.int .i64 (c.gn:Int),.float .f64 0,.int .i64 c.ma.p,.int .i64 c.ma.v,.int .i64 c.ma.u,.int .i64 c.ml.p,.int .i64 c.ml.v,.int .i64 c.ml.u,.bool false,.int .i64 0,.pointer (some ⟨c.ib,0,none⟩),.int .i64 c.last.p,.int .i64 c.last.v,.int .i64 c.last.u,.int .i64 c.all.p,.int .i64 c.all.v,.int .i64 c.all.u]
structure rW (w:World)(b:Nat)(c:iw):Prop where
 blk:aj w b 91 c.cells
 lf:c.lf≤1099511627776
 gn:c.gn≤1099511627776
def aby (c:iw):List Value:=[.int .i64 c.k,.int .i64 c.m,.int .i64 c.i,.pointer (some ⟨c.cb,0,none⟩),.int .i64 (c.lf:Int),.float .f64 0,.int .i64 (c.gn:Int),.float .f64 0]
def XW (c:iw):List Value:=[.pointer (some ⟨c.ib,0,none⟩),.int .i64 c.last.p,.int .i64 c.last.v,.int .i64 c.last.u,.int .i64 c.all.p,.int .i64 c.all.v,.int .i64 c.all.u]
theorem Qq {w:World}{b:Nat}{c:iw}(h:aj w b 91 c.cells):Met w b 91 (aby c) (XW c) 8 c.ma c.ml 0:=⟨rfl,h⟩
theorem abz {w:World}{b:Nat}{c:iw}{a l:bF}(h:Met w b 91 (aby c) (XW c) 8 a l 0):aj w b 91 ({c with ma:=a,ml:=l}:iw).cells:=h.blk
theorem rW.lt {w:World}{b:Nat}{c:iw}(h:rW w b c):b<w.heap.size:=h.blk.lt
theorem rW.mod {S:List Nat}{w w':World}{b:Nat}{c:iw}(h:rW w b c)(hm:Mod S w w')(hb:b∉S):rW w' b c:=⟨h.blk.mod hm hb,h.lf,h.gn⟩
instance {w w':World}{b:Nat}{c:iw}:Md (rW w b c) w w' (rW w' b c) (fun S=>b∉S):=⟨fun h hm hs=>rW.mod h hm hs⟩
def pE (w:World)(b:Nat)(c:iw)(w':World):Prop:=∃(lf gn:Nat) (ma ml:bF),lf≤c.lf∧rW w' b {c with lf:=lf,gn:=gn,ma:=ma,ml:=ml}∧Mod [b] w w'
section
variable {w : World} {b : Nat} {c : iw}
theorem XY (h:rW w b c):Calls Tryz.prog 105 #[.pointer (some ⟨b,4,none⟩),.pointer (some ⟨b,8,none⟩)] w fun e w'=>∃x,e= .returned (.bool x)∧pE w b c w':=by
 by_cases hz:c.lf=0
 ·have HL:=qd (Qp (o:=4) h.blk (by show some (Value.int .i64 (c.lf:Int))=_;rw[hz];rfl));have HF:=qd (show pE w b c w from⟨c.lf,c.gn,c.ma,c.ml,Nat.le_refl _,h,Mod.refl _ _⟩);clear h hz;go_in;go_wp2_with fail;refine HL.out.mono ?_;rintro y w1 ⟨rfl,rfl⟩;go_wp2;go_ret;exact⟨false,rfl,HF.out⟩
 ·have HL:=qd (XV (o:=4) (n:=c.lf) ⟨by omega,h.lf⟩ h.blk rfl);have HG:=qd h.gn;have HF:=qd h.lf;clear h hz;go_in;go_wp2_with fail;refine HL.out.mono ?_;rintro y w1 ⟨rfl,h1,m1⟩;have HU:=qd (sw b _ _ _ 8 _ _ 0 1 (by omega) w1 (Qq (c:={c with lf:=c.lf-1}) h1));have HM:=qd m1;clear h1 m1 HL;go_wp2_with fail;refine HU.out.mono ?_;rintro y w2 ⟨rfl,h2,m2⟩;have h3:=abz (c:={c with lf:=c.lf-1}) h2;have HD:=qd (Rs (o:=6) (n:=c.gn) (k:=1) ⟨HG.out,by omega⟩ h3 rfl);replace HM:=qd (HM.out.then m2);simp only[Int.natCast_one]at HD;clear h2 m2 h3 HU;go_wp2_with fail;refine HD.out.mono ?_;rintro y w3 ⟨d,d1,d2,rfl,d3,d4⟩;have HE:=qd (show pE w b c w3 from⟨c.lf-1,c.gn+d,_,_,Nat.sub_le _ _,⟨d3,Nat.le_trans (Nat.sub_le _ _) HF.out,d2⟩,HM.out.then d4⟩);clear d1 d2 d3 d4 HD;go_wp2;go_ret;exact⟨true,rfl,HE.out⟩
theorem pE.next {w1 w2:World}(h:pE w b c w1)(hn:∀c',rW w1 b c'→pE w1 b c' w2):pE w b c w2:=by
 obtain⟨lf,gn,ma,ml,h1,h2,h3⟩:=h;obtain⟨lf',gn',ma',ml',k1,k2,k3⟩:=hn _ h2;exact⟨lf',gn',ma',ml',Nat.le_trans k1 h1,k2,h3.then k3⟩
theorem U5 (h:rW w b c)(n:Nat)(hn:n≤1000):Calls Tryz.prog 64 #[.pointer (some ⟨b,4,none⟩),.pointer (some ⟨b,8,none⟩),.int .i64 (n:Int)] w fun e w'=>∃d:Nat,e= .returned (.int .i64 (d:Int))∧pE w b c w':=by
 have HW:=qd (show pE w b c w from⟨c.lf,c.gn,c.ma,c.ml,Nat.le_refl _,h,Mod.refl _ _⟩);clear h;go_in;go_wp2;go_loopw [7] (fun v7 wr=>∃i:Nat,i≤n∧v7= .int .i64 (i:Int)∧Hid (pE w b c wr)) (fun v7 _=>n-(intOf v7).toNat)
 case atStart=>exact⟨0,by omega,rfl,HW⟩
 case round=>
  clear HW;obtain⟨i,hi,rfl,HW⟩:=hrel;by_cases hlt:i<n
  ·have hlt':(i:Int)<(n:Int):=by omega
   obtain⟨lf,gn,ma,ml,q1,q2,q3⟩:=HW.out;have HS:=qd (XY q2);have HQ:=qd (And.intro q1 q3)
   have hw1:IntKind.i64.wrap ((i:Int)+1)=((i+1:Nat):Int):=by rw[IntKind.wrap_i64];omega
   clear q1 q2 q3 HW;go_wp2_with fail;refine HS.out.mono ?_;rintro y w2 ⟨x,rfl,lf',gn',ma',ml',k1,k2,k3⟩;have HW2:=qd (show pE w b c w2 from⟨lf',gn',ma',ml',Nat.le_trans k1 HQ.out.1,k2,HQ.out.2.then k3⟩);clear k1 k2 k3 HS HQ
   cases x with
   |true=>
    go_wp2;go_roundw
    case rel=>exact⟨i+1,by omega,rfl,HW2⟩
    case measure=>simp[intOf];omega
   |false=>
    go_wp2;go_ret
    first|exact⟨i,rfl,HW2.out⟩|exact⟨⟨i,rfl⟩,HW2.out⟩
  ·have hlt':¬(i:Int)<(n:Int):=by omega
   go_wp2;go_ret
   first|exact⟨i,rfl,HW.out⟩|exact⟨⟨i,rfl⟩,HW.out⟩
end
theorem XZ (k m i:Int)(hk:1≤k∧k≤64)(w:World):Calls Tryz.prog 65 #[kR k m i] w fun e w'=>e= .returned (.int .i64 (4*k))∧Below w.heap.size w w':=by
 have hB:=(Below.refl w.heap.size w).alloc (Nat.le_refl _) (.cells #[.int .i64 k,.int .i64 m,.int .i64 i] 44);have hC:=aj.new w 44 #[.int .i64 k,.int .i64 m,.int .i64 i];obtain⟨W,hW⟩:∃W,W=w.alloc (.cells #[.int .i64 k,.int .i64 m,.int .i64 i] 44):=⟨_,rfl⟩;rw[←hW]at hB hC;obtain⟨c0,c1,c2⟩:=hC.c3;have HW:=qd hW;have HB:=qd hB;have HP:=qd (BP k m i 4 hk (by omega) W);unfold kR at HP⊢;clear hW hB hC hk;go_in;go_upto_region 1 with fail;rw[←HW.out];go_wp2_with fail;refine(HP.out).mono ?_;rintro y w1 ⟨rfl,hb⟩;have HB2:=qd (HB.out.trans (hb.mono HB.out.size));clear hb;go_wp2;go_ret;exact⟨gu (by omega),HB2.out⟩
theorem Jw {w:World}{mb:Nat}{t:TypeId}{pre post:List Value}{mo:Nat}{a l:bF}{m:Int}(h:Met w mb t pre post mo a l m):Calls Tryz.prog 33 #[.pointer (some ⟨mb,mo,none⟩)] w fun e w'=>e= .returned (oJ l)∧Below w.heap.size w w':=by
 have m3:w.cell? ⟨mb,mo+3,none⟩=some (.int .i64 l.p):=h.at_ 3 (by omega);have m4:w.cell? ⟨mb,mo+3+1,none⟩=some (.int .i64 l.v):=h.at_ 4 (by omega);have m5:w.cell? ⟨mb,mo+3+2,none⟩=some (.int .i64 l.u):=h.at_ 5 (by omega);have hl:=h.lt;have hB:=(Below.refl w.heap.size w).alloc (Nat.le_refl _) (.cells #[.int .i64 0,.int .i64 0,.int .i64 0] 87);have hX:=aj.new w 87 #[.int .i64 0,.int .i64 0,.int .i64 0];obtain⟨W,hW⟩:∃W,W=w.alloc (.cells #[.int .i64 0,.int .i64 0,.int .i64 0] 87):=⟨_,rfl⟩;rw[←hW]at hB hX;replace m3:=aA hB m3;replace m4:=aA hB m4;replace m5:=aA hB m5;obtain⟨x0,x1,x2⟩:=hX.c3;obtain⟨f0,f1,f2⟩:=hX.f3;have HW:=qd hW;have HB:=qd hB;unfold oJ;clear h hW hB hX;go_in;go_upto_region 1 with fail;rw[←HW.out];go_wp2;refine bodyPost_ret (v:= .agg #[.int .i64 l.p,.int .i64 l.v,.int .i64 l.u]) (by simp[results,Tryz.results33,go_sem,x0,x1,x2]) rfl ?_;exact⟨rfl,(((HB.out).setCell (p:=⟨w.heap.size,0,none⟩) (Nat.le_refl _) _).setCell (p:=⟨w.heap.size,1,none⟩) (Nat.le_refl _) _).setCell (p:=⟨w.heap.size,2,none⟩) (Nat.le_refl _) _⟩
section
variable {w : World} {b : Nat} {c : iw}
theorem BZ (h:rW w b c)(d:bF):Calls Tryz.prog 31 #[.pointer (some ⟨b,0,none⟩),oJ d] w fun y w'=>y= .returned undef∧rW w' b {c with last:=d,all:=je c.all d}∧Mod [b] w w':=by
 obtain⟨s,hs⟩:∃s,s=je c.all d:=⟨_,rfl⟩;have jB:=qd (fun V=>Bt c.all d V);rw[←hs]at jB⊢;clear hs;have X0:=qd trivial;have hB:=(Below.refl w.heap.size w).alloc (Nat.le_refl _) (.cells #[.int .i64 d.p,.int .i64 d.v,.int .i64 d.u] 87);have hX:=aj.new w 87 #[.int .i64 d.p,.int .i64 d.v,.int .i64 d.u];obtain⟨W,hW⟩:∃W,W=w.alloc (.cells #[.int .i64 d.p,.int .i64 d.v,.int .i64 d.u] 87):=⟨_,rfl⟩;rw[←hW]at hB hX
 have hne:b≠w.heap.size:=fun e=>by have:=h.lt;omega
 have hC:=h.mod (Mod.of_below hB []) (by simp);have HL:=qd (And.intro h.lf h.gn);have hbk:=hC.blk;unfold iw.cells at hbk;have x0:=hX.cell 0;have x1:=hX.cell 1;have x2:=hX.cell 2;have c17:=hbk.cell 17;have c18:=hbk.cell 18;have c19:=hbk.cell 19;simp only[gl]at x0 x1 x2 c17 c18 c19;have f17:=hbk.frozen 17;have f18:=hbk.frozen 18;have f19:=hbk.frozen 19;have HW:=qd hW;have HB:=qd hB;have HX:=qd hX;have HK:=qd hbk;unfold oJ;clear h hW hB hX hC hbk;go_in;go_upto_region 1 with fail;rw[←HW.out];go_upto_region 2 with fail;have hnew:=((HK.out.ak 17 (.int .i64 d.p)).ak 18 (.int .i64 d.v)).ak 19 (.int .i64 d.u);have hm:=(((Mod.refl [b] W).sl 17 (.int .i64 d.p)).sl 18 (.int .i64 d.v)).sl 19 (.int .i64 d.u);simp only[pt]at hnew;refine abf hnew hm ?_;clear hnew hm HK x0 x1 x2 c17 c18 c19 f17 f18 f19;rintro W1 ⟨hK,hm⟩;have HM:=qd ((Mod.of_below HB.out [b]).then hm);replace HX:=qd (HX.out.mod hm (by simp;omega));have HK:=qd hK;clear hK hm;have x0:=HX.out.cell 0;have x1:=HX.out.cell 1;have x2:=HX.out.cell 2;have c20:=HK.out.cell 20;have c21:=HK.out.cell 21;have SS:=HK.out.cell 22;simp only[gl]at x0 x1 x2 c20 c21 SS;clear X0;have HP:=qd (fun V=>(show Calls Tryz.prog 63 #[.agg #[.int .i64 c.all.p,.int .i64 c.all.v,.int .i64 c.all.u],.agg #[.int .i64 d.p,.int .i64 d.v,.int .i64 d.u]] V fun e w'=>e= .returned (.agg #[.int .i64 s.p,.int .i64 s.v,.int .i64 s.u])∧Below V.heap.size V w' from jB.out V));clear jB
 refine rT (fun(w':World)=>w'.cell? ⟨w.heap.size,0,none⟩=some (.int .i64 d.p)∧w'.cell? ⟨w.heap.size,1,none⟩=some (.int .i64 d.v)∧w'.cell? ⟨w.heap.size,2,none⟩=some (.int .i64 d.u)∧w'.cell? ⟨b,20,none⟩=some (.int .i64 c.all.p)∧w'.cell? ⟨b,21,none⟩=some (.int .i64 c.all.v)∧w'.cell? ⟨b,22,none⟩=some (.int .i64 c.all.u)) [9] ?_;have hHeld:=(⟨x0,x1,x2,c20,c21,SS⟩:_∧_∧_∧_∧_∧_);refine vW 0 rfl ?_;refine vW 1 rfl ?_;refine vW 2 rfl ?_;refine vW 3 rfl ?_;refine vT 4 rfl ?_;refine vT 5 rfl ?_;refine nT 6 rfl fun K hK=> ?_;go_simp;refine(HP.out _).mono ?_;rintro y W2 ⟨rfl,hb⟩;replace hb:Below W1.heap.size W1 W2:=bP hb (Below.refl _ _).drew;replace HK:=qB hb HK;replace HX:=qB hb HX;replace HM:=qd (HM.out.then (Mod.of_below hb [b]));clear hb HP x0 x1 x2 c20 c21 SS;have x0:=HX.out.cell 0;have x1:=HX.out.cell 1;have x2:=HX.out.cell 2;have c20:=HK.out.cell 20;have c21:=HK.out.cell 21;have SS:=HK.out.cell 22;simp only[gl]at x0 x1 x2 c20 c21 SS;go_wp2_with fail;have hHeld:=(⟨x0,x1,x2,c20,c21,SS⟩:_∧_∧_∧_∧_∧_);refine kO hK ?_;clear hK K;refine vW 7 rfl ?_;refine vW 8 rfl ?_;refine nT 9 rfl fun K hK=> ?_;have f20:=HK.out.frozen 20;have f21:=HK.out.frozen 21;have f22:=HK.out.frozen 22;have hnew:=((HK.out.ak 20 (.int .i64 s.p)).ak 21 (.int .i64 s.v)).ak 22 (.int .i64 s.u);have hm:=(((Mod.refl [b] W2).sl 20 (.int .i64 s.p)).sl 21 (.int .i64 s.v)).sl 22 (.int .i64 s.u);simp only[pt]at hnew;have HN:=qd hnew;have HQ:=qd (HM.out.then hm);clear hnew hm;go_simp;refine kO hK ?_;clear hK K
 refine aX (by kernel_rfl) ?_ _;go_wp2;go_end0;exact⟨rfl,⟨HN.out,HL.out.1,HL.out.2⟩,HQ.out⟩
def Wrote (w:World)(b:Nat)(c:iw)(w':World):Prop:=∃(lf gn:Nat) (ma ml last all:bF),lf≤c.lf∧rW w' b {c with lf:=lf,gn:=gn,ma:=ma,ml:=ml,last:=last,all:=all}∧Mod [b] w w'
theorem aaO (h:rW w b c)(hk:1≤c.k∧c.k≤64)(d:bF):Calls Tryz.prog 34 #[.pointer (some ⟨b,0,none⟩),oJ d] w fun y w'=>y= .returned undef∧Wrote w b c w':=by
 have hB:=(Below.refl w.heap.size w).alloc (Nat.le_refl _) (.cells #[.int .i64 d.p,.int .i64 d.v,.int .i64 d.u] 87);have hX:=aj.new w 87 #[.int .i64 d.p,.int .i64 d.v,.int .i64 d.u];obtain⟨W,hW⟩:∃W,W=w.alloc (.cells #[.int .i64 d.p,.int .i64 d.v,.int .i64 d.u] 87):=⟨_,rfl⟩;rw[←hW]at hB hX
 have hne:b≠w.heap.size:=fun e=>by have:=h.lt;omega
 have hC:=h.mod (Mod.of_below hB []) (by simp);have HC:=qd hC;have lZ:=qd (Fq b _ _ _ 8 _ _ 0 W (Qq hC.blk));have HW:=qd hW;have HM:=qd (Mod.of_below hB [b]);have HX:=qd hX;obtain⟨bx,hbx⟩:∃bx,bx=w.heap.size:=⟨_,rfl⟩;rw[←hbx]at HX hne;have mV:=qd hne;unfold oJ;clear h hW hB hX hC hne;go_in;go_upto_region 1 with fail;rw[←HW.out];rw[←hbx];clear hbx;go_wp2_with fail;refine lZ.out.mono ?_;rintro y W1 ⟨rfl,hm1,hm⟩;have h1:=abz hm1;replace HX:=qd (HX.out.mod hm (fun hh=>mV.out (List.mem_singleton.1 hh).symm));replace HM:=qd (HM.out.then hm);have wK:=qd (show rW W1 b {c with ml:=⟨0,0,0⟩} from⟨h1,HC.out.lf,HC.out.gn⟩);clear hm1 hm lZ HC;have hbk:=h1;unfold iw.cells at hbk;obtain⟨c0,c1,c2⟩:=hbk.c3;clear h1 hbk;have vH:=qd (show∀V,Calls Tryz.prog 65 #[.agg #[.int .i64 c.k,.int .i64 c.m,.int .i64 c.i]] V _ from fun V=>XZ c.k c.m c.i hk V);go_upto_region 2 with fail;refine rT (fun(w':World)=>w'.cell? ⟨b,0,none⟩=some (.int .i64 c.k)∧w'.cell? ⟨b,1,none⟩=some (.int .i64 c.m)∧w'.cell? ⟨b,2,none⟩=some (.int .i64 c.i)) [11] ?_;have hHeld:=(⟨c0,c1,c2⟩:_∧_∧_);refine vW 0 rfl ?_;refine vW 1 rfl ?_;refine vW 2 rfl ?_;refine vW 3 rfl ?_;refine vW 4 rfl ?_;refine vW 5 rfl ?_;refine vW 6 rfl ?_;refine vW 7 rfl ?_;refine vW 8 rfl ?_;refine vT 9 rfl ?_;refine nT 10 rfl fun K hK=> ?_;go_simp;refine(vH.out _).mono ?_;rintro y W2 ⟨rfl,hb⟩;replace hb:Below W1.heap.size W1 W2:=bP hb (Below.refl _ _).drew;replace wK:=qB hb wK;replace HX:=qB hb HX
 replace HM:=qd (HM.out.then (Mod.of_below hb [b]));replace c0:=aA hb c0;replace c1:=aA hb c1;replace c2:=aA hb c2;clear hb vH;go_wp2_with fail;have hHeld:=(⟨c0,c1,c2⟩:_∧_∧_);refine kO hK ?_;clear hK K;refine nT 11 rfl fun K hK=> ?_;go_simp;obtain⟨n4,hn4⟩:∃n4:Nat,4*c.k=(n4:Int):=⟨(4*c.k).toNat,by omega⟩;rw[hn4];have ze:=qd (U5 wK.out n4 (by omega));refine ze.out.mono ?_;rintro y W3 ⟨dn,rfl,lf,gn,ma,ml,g1,g2,g3⟩;replace HX:=qd (HX.out.mod g3 (fun hh=>mV.out (List.mem_singleton.1 hh).symm));replace HM:=qd (HM.out.then g3);have oq:=qd g2;have sN:=qd g1;clear g1 g2 g3 ze hn4 wK c0 c1 c2;go_wp2_with fail;refine kO hK ?_;clear hK K;refine aX (by kernel_rfl) ?_ _;go_upto_region 3 with fail;obtain⟨C3,Cz⟩:∃C3:iw,C3={c with lf:=lf,gn:=gn,ma:=ma,ml:=ml}:=⟨_,rfl⟩;replace oq:=qd (show rW W3 b C3 from Cz▸oq.out);have iG:=qd (show Calls Tryz.prog 33 #[.pointer (some ⟨b,8,none⟩)] (World.drew W3) _ from Jw (Qq (oq.out.mod (Mod.of_below (Below.refl W3.heap.size W3).drew []) (by simp)).blk));have jB:=qd (fun V=>Bt d C3.ml V);obtain⟨s,hs⟩:∃s,s=je d C3.ml:=⟨_,rfl⟩;rw[←hs]at jB;unfold oJ at iG jB;have HQ:=qd Cz;clear hs Cz;obtain⟨x0,x1,x2⟩:=HX.out.c3;refine rT (fun(w':World)=>w'.cell? ⟨bx,0,none⟩=some (.int .i64 d.p)∧w'.cell? ⟨bx,1,none⟩=some (.int .i64 d.v)∧w'.cell? ⟨bx,2,none⟩=some (.int .i64 d.u)) [6,7] ?_;have hHeld:=(⟨x0,x1,x2⟩:_∧_∧_);refine vW 0 rfl ?_;refine vT 1 rfl ?_;refine vW 2 rfl ?_;refine vW 3 rfl ?_;refine vW 4 rfl ?_;refine nT 5 rfl fun K hK=> ?_;go_simp
 refine(iG.out).mono ?_;rintro y W4 ⟨rfl,hb⟩;replace hb:Below W3.heap.size W3 W4:=bP hb (Below.refl _ _).drew;replace oq:=qB hb oq;replace HM:=qd (HM.out.then (Mod.of_below hb [b]));replace x0:=aA hb x0;replace x1:=aA hb x1;replace x2:=aA hb x2;clear hb iG;go_wp2_with fail;have hHeld:=(⟨x0,x1,x2⟩:_∧_∧_);refine kO hK ?_;clear hK K;refine nT 6 rfl fun K hK=> ?_;go_simp;refine(jB.out _).mono ?_;rintro y W5 ⟨rfl,hb⟩;replace oq:=qB hb oq;replace HM:=qd (HM.out.then (Mod.of_below hb [b]));clear hb jB x0 x1 x2;go_wp2_with fail;refine kO hK ?_;clear hK K;refine nT 7 rfl fun K hK=> ?_;go_simp;have Ml:=qd (show Calls Tryz.prog 31 #[.pointer (some ⟨b,0,none⟩),.agg #[.int .i64 s.p,.int .i64 s.v,.int .i64 s.u]] W5 _ from BZ oq.out s);refine(Ml.out).mono ?_;rintro y W6 ⟨rfl,h6,m6⟩;have HE:=qd (show Wrote w b c W6 from⟨lf,gn,ma,ml,s,je C3.all s,sN.out,by have h7:=h6;rw[HQ.out]at h7⊢;exact h7,HM.out.then m6⟩);clear h6 m6 Ml;go_wp2_with fail;refine kO hK ?_;clear hK K;refine aX (by kernel_rfl) ?_ _;go_wp2;go_end0;exact⟨rfl,HE.out⟩
end
end
section
def jK (W0:World)(E:Nat→Addr)(H:Nat→Nat)(K M mb:Nat)(G:List Nat)(w:World)(a:Pool)(ids:List Nat)(c:bF):Prop:=
 ∃(C:iO) (F:List Nat) (len:Nat) (b:Int) (x:bJ),C.mb=mb∧C.K=K∧C.M=M∧G=C.foot F∧aF W0 E H C w (C.foot F) w F ⟨a,ids,len,b,x⟩∧lW a ids []∧len=a.ents.length∧len≤M∧x.last=c
def Qr (c:bF):Prop:=0≤c.p∧c.p≤192∧c.u=0
section
variable {W0 : World} {E : Nat → Addr} {H : Nat → Nat} {K M mb : Nat} {G : List Nat} {w w' : World} {a : Pool} {ids : List Nat} {c : bF}
theorem jK.at_ (h:jK W0 E H K M mb G w a ids c):jk W0 E H K M mb G w a ids:=by
 obtain⟨C,F,len,b,x,h1,h2,h3,h4,h5,h6,h7,h8,_⟩:=h;exact⟨C,F,len,b,x,h1,h2,h3,h4,h5,h6,h7,h8⟩
theorem jk.c_ (h:jk W0 E H K M mb G w a ids):∃c,jK W0 E H K M mb G w a ids c:=by
 obtain⟨C,F,len,b,x,h1,h2,h3,h4,h5,h6,h7,h8⟩:=h;exact⟨_,C,F,len,b,x,h1,h2,h3,h4,h5,h6,h7,h8,rfl⟩
theorem Ca (cb:Nat)(w:World):Calls Tryz.prog 32 #[.pointer (some ⟨cb,0,none⟩)] w fun y w'=>y= .returned (.pointer (some ⟨cb,3,none⟩))∧w=w':=by
 go_in;go_wp2;go_ret;exact⟨rfl,rfl⟩
theorem Ko (h:jK W0 E H K M mb G w a ids c):Calls Tryz.prog 33 #[.pointer (some ⟨mb,3,none⟩)] w fun y w'=>y= .returned (oJ c)∧Below w.heap.size w w':=by
 obtain⟨C,F,len,b,x,h1,h2,h3,h4,h5,h6,h7,h8,h9⟩:=h;rw[←h1,←h9];exact Jw (show Met w C.mb _ _ _ 3 x.all x.last C.m from h5.aC.met)
theorem jK.mod {S:List Nat}(h:jK W0 E H K M mb G w a ids c)(hm:Mod S w w')(hS:∀q∈S,q∉G∧W0.heap.size≤q):jK W0 E H K M mb G w' a ids c:=by
 obtain⟨C,F,len,b,x,h1,h2,h3,rfl,hC,hi,hl,hm',hx⟩:=h
 have hd:∀q∈S,q≠C.mb∧q∉C.s.blocks∧q∉F∧C.v.ownBlock≠some q:=fun q hq=>by
  have:=(hS q hq).1;rw[aY]at this;simp only[not_or]at this;exact this
 refine⟨C,F,len,b,x,h1,h2,h3,rfl,⟨bq.start (hC.aC.aC.mod hm (fun q hq dK=>(hd q dK).2.1 hq)) (hC.hp.zR hC.aC.pool hm (fun q hq dK=>(hd q dK).2.2.1 hq)) (hC.aC.met.mod hm (fun hq=>(hd _ hq).1 rfl)) (hC.aC.env.mod hm (fun q hq=>(hS q hq).2)) hC.aC.apart hC.aC.vJ,jI hC.row hm (fun k hk Ju=>(hd k Ju).2.2.2 hk),hC.AQ,hC.pos,hC.kk,hC.mm, ?_,fun q hq=> .inl hq,Mod.refl _ _⟩,hi,hl,hm',hx⟩;have:=hC.aC.env.size;have:=hm.size;omega
theorem jK.below (h:jK W0 E H K M mb G w a ids c)(hb:Below w.heap.size w w'):jK W0 E H K M mb G w' a ids c:=h.mod (Mod.of_below hb []) (by simp)
theorem X3 (h:jk W0 E H K M mb G w a ids)(key hash:Nat)(h64:hash<18446744073709551616):Calls Tryz.prog 110 #[bU mb,.int .u64 (hash:Int),.int .u64 (key:Int)] w fun y w'=>
  ∃(o:Option ay) (hi:Nat) (c:bF) (G':List Nat),y= .returned (.tuple #[aW (o.getD ⟨0,0,0⟩),.bool o.isSome,.int .u64 (hi:Int)])∧(hash≤hi∧hi<18446744073709551616∧hi∈jY a∧(∀x∈jY a,hash≤x→hi≤x)∧fP ⟨key,0,hash⟩ (upto a.ents hi) o)∧Qr c∧jK W0 E H K M mb G' w' a ids c∧(∀q∈G',q∈G∨w.heap.size≤q)∧Mod G w w':=by
 obtain⟨f1,f2,f3,f4,f5,f6,_⟩:=h.facts;obtain⟨C,F,len,b,x,h1,h2,h3,rfl,hC,hi,hl,hm⟩:=h;rw[←h1];refine(U4 hC hi key hash h64).mono ?_;rintro y w' ⟨v,rfl,id,N,o,x',hN,hid,hIs,rfl,hc,hco⟩;replace hN:a.Ns[id]?=some N:=hN;replace hid:id=a.l.getD (dZ hash a.d) 0:=hid;obtain⟨N',hN',htop⟩:=f1.dir.at_ h64 f2;rw[←hid,hN]at hN';cases hN';have hok:=f6 id N hN;obtain⟨r1,r2⟩:=vP.1 htop;have hlow:=Bq (d:=N.au) (p:=N.pfx) (by have:=hok.deep;omega) hok.pfx;have hp:=pos2 (64-N.au);obtain⟨k1,k2,k3,k4⟩:=hco (Int.le_refl _) (Int.le_refl _)
 have afu:lg N.pfx N.au<18446744073709551616:=by unfold mZ at hlow;unfold lg;omega
 refine⟨o,lg N.pfx N.au,x'.last,_,rfl,⟨r2,afu,List.mem_map.2 ⟨N,List.mem_of_getElem? hN,rfl⟩,fun x hx hle=> ?_,Rq hIs (fun e he hle=> ?_) (fun e he=> ?_)⟩,⟨k1,by simp only at k2;omega,by simp only at k4;omega⟩,⟨C,F,len,b,x',rfl,h2,h3,rfl,hc.again,hi,hl,hm,rfl⟩,hc.sub,hc.mod⟩
 ·obtain⟨N2,hN2,rfl⟩:=List.mem_map.1 hx;obtain⟨j,hj⟩:=List.mem_iff_getElem?.1 hN2;by_cases hlt:lg N2.pfx N2.au<lg N.pfx N.au
  ·have e1:=f1.dir.Qa (by omega) f2 hN (vP.2 ⟨Nat.le_trans r1 hle,Nat.le_of_lt hlt⟩);have e2:=f1.dir.Qa (by omega) f2 hj (vP.2 ⟨by unfold mZ lg;have:=pos2 (64-N2.au);omega,Nat.le_refl _⟩);rw[e1]at e2;subst e2;rw[hN]at hj;cases hj;exact Nat.le_refl _
  ·omega
 ·obtain⟨g1,g2⟩:=pz.1 he;obtain⟨j,M',k1,k2⟩:=o8.1 g1;obtain⟨k3,k4⟩:=(f6 j M' k1).hash e k2;have e1:=f1.dir.Qa k3.h64 f2 k1 k4;have e2:=f1.dir.Qa k3.h64 f2 hN (vP.2 ⟨by have:=Mi hle;omega,g2⟩);rw[e1]at e2;subst e2;rw[hN]at k1;cases k1;exact k2
 ·obtain⟨k3,k4⟩:=hok.hash e he;exact pz.2 ⟨o8.2 ⟨id,N,hN,he⟩,(vP.1 k4).2⟩
def En (H:Nat→Nat)(K M:Nat)(a:Pool)(ids:List Nat)(e:ay)(a':Pool)(aP:List Nat):Prop:=a'.ents.Perm (Kn M a.ents e)∧(look a.ents e.key=none→a.ents.length<M→WrS H K a ids [] [e] a' aP)
theorem acz (h:jk W0 E H K M mb G w a ids)(e:ay)(he:nu H e):Calls Tryz.prog 30 #[bU mb,.int .u64 (e.key:Int),.int .u64 (e.val:Int),.int .u64 (e.hash:Int)] w fun y w'=>
  y= .returned (jO E (uG M a.ents e.key))∧∃a' aP,pq W0 E H K M mb G w w' a' aP∧En H K M a ids e a' aP:=by
 obtain⟨f1,f2,f3,f4,f5,f6,_,_,_,f10,_⟩:=h.facts;refine(adU h e he).mono ?_;rintro y w' (⟨h1,h2,rfl,hto⟩|⟨a',aP,h1,h2,rfl,hw,hto⟩|⟨a',aP,e0,h1,rfl,hw,hto⟩)
 ·have hf:tu M a.ents e.key=true:=by simp[tu,h1,h2]
  unfold En uG Kn;rw[hf];exact⟨rfl,a,ids,hto,.refl _,fun _ hl=>by omega⟩
 ·have hf:tu M a.ents e.key=false:=by simp[tu,h1];omega
  unfold En uG Kn;rw[hf,Mj h1];have hw0:=hw;obtain⟨_,_,_,_,_,_,⟨r,hr1,hr2⟩,_⟩:=hw;have h3:(e::r).Perm (e::a.ents):= .cons e hr1.symm;exact⟨rfl,a',aP,hto,hr2.trans (h3.trans (List.perm_append_singleton e a.ents).symm),fun _ _=>hw0⟩
 ·have hf:tu M a.ents e.key=false:=by simp[tu,h1]
  unfold En uG Kn;rw[hf];obtain⟨_,_,_,_,_,_,⟨r,hr1,hr2⟩,_⟩:=hw;obtain⟨m1,m2⟩:=yw h1;obtain⟨j,N,k1,k2⟩:=o8.1 m1;obtain⟨k3,_⟩:=(f6 j N k1).hash e0 k2
  have hee:({e0 with val:=e.val}:ay)=e:=by
   have h4:e0.hash=e.hash:=by rw[k3.hash,m2,he.hash]
   obtain⟨a1,a2,a3⟩:=e;simp only at m2 h4;simp[m2,h4]
  rw[hee]at hr2;have h3:=Mk f10 hr1;rw[m2]at h3;exact⟨rfl,a',aP,hto,hr2.trans ((List.Perm.cons e h3.symm).trans (List.perm_append_singleton e _).symm),fun hl=>by rw[h1]at hl;cases hl⟩
end
end
end Go.Proofs.YtjfgpnapccdnlaaGreatDoor
