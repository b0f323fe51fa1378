/- What a map lets go a few at a time, and what it counts. No statement of the claim. -/
import Derived.Test.YtnfjjbpmhcbelaaGreatDoorCoG
import Derived.Test.YtnfjjbpmhcbelaaGreatDoorSqM
import Derived.Test.YtnfjjbpmhcbelaaGreatDoorAppAny
import Derived.Test.YtnfjjbpmhcbelaaGreatDoorGaugeA
import Derived.Test.YtnfjjbpmhcbelaaGreatDoorFqB
import Derived.Test.YtnfjjbpmhcbelaaGreatDoorCoBQ
import Derived.Test.YtnfjjbpmhcbelaaGreatDoorCoAD
import Derived.Test.YtnfjjbpmhcbelaaGreatDoorCoDA
import Derived.Defers
import Derived.Recover
namespace Go.Proofs.YtnfjjbpmhcbelaaGreatDoor
set_option maxRecDepth 100000
set_option maxHeartbeats 4000000
open Go.RowKit dI
section
section
variable {w : World} {b o : Nat} {t : TypeId} {cs : Array Value}
theorem WL {n:Nat}(hp:1≤n∧n≤1099511627776)(h:aj w b t cs)(hn:cs[o]?=some (nI n)):Calls Tryz.prog 183 #[.pointer (some ⟨b,o,none⟩),.int .i64 1] w fun e w'=>e= .returned (.bool true)∧aj w' b t (cs.setIfInBounds o (.int .i64 ((n-1:Nat):Int)))∧Mod [b] w w':=by
 obtain⟨b0,b1⟩:=hp
 have hx1:¬(1:Int)>(n:Int):=by omega
 have c0:=(h.cell o).trans hn;have f0:=h.frozen o;have HS:=qd (And.intro (h.ak o (.int .i64 ((n-1:Nat):Int))) ((Mod.refl [b] w).sl o (.int .i64 ((n-1:Nat):Int))))
 have he:(n:Int)-1=((n-1:Nat):Int):=by omega
 clear h hn;go_in;go_wp2;go_ret;exact⟨rfl,HS.out⟩
theorem Pd (h:aj w b t cs)(hn:cs[o]?=some (.int .i64 0)):Calls Tryz.prog 183 #[.pointer (some ⟨b,o,none⟩),.int .i64 1] w fun e w'=>e= .returned (.bool false)∧w=w':=by
 have c0:=(h.cell o).trans hn;clear h hn;go_in;go_wp2;go_ret;exact⟨rfl,rfl⟩
theorem Ql {n k:Nat}(hp:n≤1099511627776∧k≤1099511627776)(h:aj w b t cs)(hn:cs[o]?=some (nI n)):Calls Tryz.prog 184 #[.pointer (some ⟨b,o,none⟩),nI k] w fun e w'=>∃d,d≤k∧n+d≤1099511627776∧e= .returned (nI d)∧aj w' b t (cs.setIfInBounds o (.int .i64 ((n+d:Nat):Int)))∧Mod [b] w w':=by
 obtain⟨b0,b1⟩:=hp;have c0:=(h.cell o).trans hn;have f0:=h.frozen o;have HS:=qd (fun u=>And.intro (h.ak o u) ((Mod.refl [b] w).sl o u))
 have hw1:IntKind.i64.wrap (1099511627776-(n:Int))=((1099511627776-n:Nat):Int):=by rw[IntKind.wrap_i64];omega
 have hx0:¬(k:Int)<0:=by omega
 clear h hn;by_cases hk:k≤1099511627776-n
 ·have hx1:¬((1099511627776-n:Nat):Int)<(k:Int):=by omega
  have hx2:max (k:Int) 0=(k:Int):=by omega
  have hx3:min (k:Int) ((1099511627776-n:Nat):Int)=(k:Int):=by omega
  have hw2:IntKind.i64.wrap ((n:Int)+(k:Int))=((n+k:Nat):Int):=by rw[IntKind.wrap_i64];omega
  go_in;go_wp2;go_ret;exact⟨k,Nat.le_refl _,by omega,rfl,HS.out _⟩
 ·obtain⟨d,hd⟩:∃d,d=1099511627776-n:=⟨_,rfl⟩;rw[←hd]at hw1
  have hx1:(d:Int)<(k:Int):=by omega
  have hx2:max (k:Int) 0=(k:Int):=by omega
  have hx3:min (k:Int) (d:Int)=(d:Int):=by omega
  have hw2:IntKind.i64.wrap ((n:Int)+(d:Int))=((n+d:Nat):Int):=by rw[IntKind.wrap_i64];omega
  have HD:=qd (show d≤k∧n+d≤1099511627776 from by omega);clear hd hk;go_in;go_wp2;go_ret;exact⟨d,HD.out.1,HD.out.2,rfl,HS.out _⟩
end
structure fZ where
 k:Int
 m:Int
 i:Int
 cb:Nat
 lf:Nat
 gn:Nat
 ma:bq
 ml:bq
 ib:Nat
 last:bq
 all:bq
def fZ.cells (c:fZ):Array Value:= #[.int .i64 c.k,.int .i64 c.m,.int .i64 c.i,pQ c.cb,nI c.lf,.float .f64 0,nI c.gn,.float .f64 0,.int .i64 c.ma.p,.int .i64 c.ma.v,.int .i64 c.ma.u,.int .i64 c.ml.p,.int .i64 c.ml.v,.int .i64 c.ml.u,.bool false,.int .i64 0,pQ c.ib,.int .i64 c.last.p,.int .i64 c.last.v,.int .i64 c.last.u,.int .i64 c.all.p,.int .i64 c.all.v,.int .i64 c.all.u]
structure sF (w:World)(b:Nat)(c:fZ):Prop where
 blk:aj w b 103 c.cells
 lf:c.lf≤1099511627776
 gn:c.gn≤1099511627776
def aaH (c:fZ):List Value:=[.int .i64 c.k,.int .i64 c.m,.int .i64 c.i,pQ c.cb,nI c.lf,.float .f64 0,nI c.gn,.float .f64 0]
def WM (c:fZ):List Value:=[pQ c.ib,.int .i64 c.last.p,.int .i64 c.last.v,.int .i64 c.last.u,.int .i64 c.all.p,.int .i64 c.all.v,.int .i64 c.all.u]
theorem Pe {w:World}{b:Nat}{c:fZ}(h:aj w b 103 c.cells):Met w b 103 (aaH c) (WM c) 8 c.ma c.ml 0:=⟨rfl,h⟩
theorem aaI {w:World}{b:Nat}{c:fZ}{a l:bq}(h:Met w b 103 (aaH c) (WM c) 8 a l 0):aj w b 103 ({c with ma:=a,ml:=l}:fZ).cells:=h.blk
theorem sF.lt {w:World}{b:Nat}{c:fZ}(h:sF w b c):b<w.heap.size:=h.blk.lt
theorem sF.mod {S:List Nat}{w w':World}{b:Nat}{c:fZ}(h:sF w b c)(hm:Mod S w w')(hb:b∉S):sF w' b c:=⟨h.blk.mod hm hb,h.lf,h.gn⟩
instance {w w':World}{b:Nat}{c:fZ}:Md (sF w b c) w w' (sF w' b c) (fun S=>b∉S):=⟨fun h hm hs=>sF.mod h hm hs⟩
def pE (w:World)(b:Nat)(c:fZ)(w':World):Prop:=∃(lf gn:Nat) (ma ml:bq),lf≤c.lf∧sF w' b {c with lf:=lf,gn:=gn,ma:=ma,ml:=ml}∧Mod [b] w w'
section
variable {w : World} {b : Nat} {c : fZ}
theorem WO (h:sF w b c):Calls Tryz.prog 120 #[.pointer (some ⟨b,4,none⟩),.pointer (some ⟨b,8,none⟩)] w fun e w'=>∃x,e= .returned (.bool x)∧pE w b c w':=by
 by_cases hz:c.lf=0
 ·have HL:=qd (Pd (o:=4) h.blk (by show some (Value.int .i64 (c.lf:Int))=_;rw[hz];rfl));have HF:=qd (show pE w b c w from⟨c.lf,c.gn,c.ma,c.ml,Nat.le_refl _,h,Mod.refl _ _⟩);clear h hz;go_in;go_wp2_with fail;refine HL.out.mono ?_;rintro y w1 ⟨rfl,rfl⟩;go_wp2;go_ret;exact⟨false,rfl,HF.out⟩
 ·have HL:=qd (WL (o:=4) (n:=c.lf) ⟨by omega,h.lf⟩ h.blk rfl);have HG:=qd h.gn;have HF:=qd h.lf;clear h hz;go_in;go_wp2_with fail;refine HL.out.mono ?_;rintro y w1 ⟨rfl,h1,m1⟩;have HU:=qd (sK b _ _ _ 8 _ _ 0 1 (by omega) w1 (Pe (c:={c with lf:=c.lf-1}) h1));have HM:=qd m1;clear h1 m1 HL;go_wp2_with fail;refine HU.out.mono ?_;rintro y w2 ⟨rfl,h2,m2⟩;have h3:=aaI (c:={c with lf:=c.lf-1}) h2;have HD:=qd (Ql (o:=6) (n:=c.gn) (k:=1) ⟨HG.out,by omega⟩ h3 rfl);replace HM:=qd (HM.out.then m2);simp only[Int.natCast_one]at HD;clear h2 m2 h3 HU;go_wp2_with fail;refine HD.out.mono ?_;rintro y w3 ⟨d,d1,d2,rfl,d3,d4⟩;have HE:=qd (show pE w b c w3 from⟨c.lf-1,c.gn+d,_,_,Nat.sub_le _ _,⟨d3,Nat.le_trans (Nat.sub_le _ _) HF.out,d2⟩,HM.out.then d4⟩);clear d1 d2 d3 d4 HD;go_wp2;go_ret;exact⟨true,rfl,HE.out⟩
theorem pE.next {w1 w2:World}(h:pE w b c w1)(hn:∀c',sF w1 b c'→pE w1 b c' w2):pE w b c w2:=by
 obtain⟨lf,gn,ma,ml,h1,h2,h3⟩:=h;obtain⟨lf',gn',ma',ml',k1,k2,k3⟩:=hn _ h2;exact⟨lf',gn',ma',ml',Nat.le_trans k1 h1,k2,h3.then k3⟩
theorem TT (h:sF w b c)(n:Nat)(hn:n≤1000):Calls Tryz.prog 83 #[.pointer (some ⟨b,4,none⟩),.pointer (some ⟨b,8,none⟩),nI n] w fun e w'=>∃d:Nat,e= .returned (nI d)∧pE w b c w':=by
 have HW:=qd (show pE w b c w from⟨c.lf,c.gn,c.ma,c.ml,Nat.le_refl _,h,Mod.refl _ _⟩);clear h;go_in;go_wp2;go_loopw [7] (fun v7 wr=>∃i:Nat,i≤n∧v7=nI i∧Hid (pE w b c wr)) (fun v7 _=>n-(intOf v7).toNat)
 case atStart=>exact⟨0,by omega,rfl,HW⟩
 case round=>
  clear HW;obtain⟨i,hi,rfl,HW⟩:=hrel;by_cases hlt:i<n
  ·have hlt':(i:Int)<(n:Int):=by omega
   obtain⟨lf,gn,ma,ml,q1,q2,q3⟩:=HW.out;have HS:=qd (WO q2);have HQ:=qd (And.intro q1 q3)
   have hw1:IntKind.i64.wrap ((i:Int)+1)=((i+1:Nat):Int):=by rw[IntKind.wrap_i64];omega
   clear q1 q2 q3 HW;go_wp2_with fail;refine HS.out.mono ?_;rintro y w2 ⟨x,rfl,lf',gn',ma',ml',k1,k2,k3⟩;have HW2:=qd (show pE w b c w2 from⟨lf',gn',ma',ml',Nat.le_trans k1 HQ.out.1,k2,HQ.out.2.then k3⟩);clear k1 k2 k3 HS HQ
   cases x with
   |true=>
    go_wp2;go_roundw
    case rel=>exact⟨i+1,by omega,rfl,HW2⟩
    case measure=>simp[intOf];omega
   |false=>
    go_wp2;go_ret
    first|exact⟨i,rfl,HW2.out⟩|exact⟨⟨i,rfl⟩,HW2.out⟩
  ·have hlt':¬(i:Int)<(n:Int):=by omega
   go_wp2;go_ret
   first|exact⟨i,rfl,HW.out⟩|exact⟨⟨i,rfl⟩,HW.out⟩
end
theorem WQ (k m i:Int)(hk:1≤k∧k≤64)(w:World):Calls Tryz.prog 84 #[gL k m i] w fun e w'=>e= .returned (.int .i64 (4*k))∧Below w.heap.size w w':=by
 have hB:=(Below.refl w.heap.size w).alloc (Nat.le_refl _) (.cells #[.int .i64 k,.int .i64 m,.int .i64 i] 23);have hC:=aj.new w 23 #[.int .i64 k,.int .i64 m,.int .i64 i];obtain⟨W,hW⟩:∃W,W=w.alloc (.cells #[.int .i64 k,.int .i64 m,.int .i64 i] 23):=⟨_,rfl⟩;rw[←hW]at hB hC;obtain⟨c0,c1,c2⟩:=hC.c3;have HW:=qd hW;have HB:=qd hB;have HP:=qd (BF k m i 4 hk (by omega) W);unfold gL at HP⊢;clear hW hB hC hk;go_in;go_upto_region 1 with fail;rw[←HW.out];go_wp2_with fail;refine(HP.out).mono ?_;rintro y w1 ⟨rfl,hb⟩;have HB2:=qd (HB.out.trans (hb.mono HB.out.size));clear hb;go_wp2;go_ret;exact⟨gJ (by omega),HB2.out⟩
theorem I6 {w:World}{mb:Nat}{t:TypeId}{pre post:List Value}{mo:Nat}{a l:bq}{m:Int}(h:Met w mb t pre post mo a l m):Calls Tryz.prog 55 #[.pointer (some ⟨mb,mo,none⟩)] w fun e w'=>e= .returned (nG l)∧Below w.heap.size w w':=by
 have m3:w.cell? ⟨mb,mo+3,none⟩=some (.int .i64 l.p):=h.at_ 3 (by omega);have m4:w.cell? ⟨mb,mo+3+1,none⟩=some (.int .i64 l.v):=h.at_ 4 (by omega);have m5:w.cell? ⟨mb,mo+3+2,none⟩=some (.int .i64 l.u):=h.at_ 5 (by omega);have hl:=h.lt;have hB:=(Below.refl w.heap.size w).alloc (Nat.le_refl _) (.cells #[.int .i64 0,.int .i64 0,.int .i64 0] 98);have hX:=aj.new w 98 #[.int .i64 0,.int .i64 0,.int .i64 0];obtain⟨W,hW⟩:∃W,W=w.alloc (.cells #[.int .i64 0,.int .i64 0,.int .i64 0] 98):=⟨_,rfl⟩;rw[←hW]at hB hX;replace m3:=aI hB m3;replace m4:=aI hB m4;replace m5:=aI hB m5;obtain⟨x0,x1,x2⟩:=hX.c3;obtain⟨f0,f1,f2⟩:=hX.f3;have HW:=qd hW;have HB:=qd hB;unfold nG;clear h hW hB hX;go_in;go_upto_region 1 with fail;rw[←HW.out];go_wp2;refine bodyPost_ret (v:= .agg #[.int .i64 l.p,.int .i64 l.v,.int .i64 l.u]) (by simp[results,Tryz.results55,go_sem,x0,x1,x2]) rfl ?_;exact⟨rfl,(((HB.out).setCell (p:=⟨w.heap.size,0,none⟩) (Nat.le_refl _) _).setCell (p:=⟨w.heap.size,1,none⟩) (Nat.le_refl _) _).setCell (p:=⟨w.heap.size,2,none⟩) (Nat.le_refl _) _⟩
section
variable {w : World} {b : Nat} {c : fZ}
theorem yJ (h:sF w b c)(d:bq):Calls Tryz.prog 53 #[pQ b,nG d] w fun y w'=>y= .returned undef∧sF w' b {c with last:=d,all:=ji c.all d}∧Mod [b] w w':=by
 obtain⟨s,hs⟩:∃s,s=ji c.all d:=⟨_,rfl⟩;have jl:=qd (fun V=>Bj c.all d V);rw[←hs]at jl⊢;clear hs;have Ed:=qd trivial;have hB:=(Below.refl w.heap.size w).alloc (Nat.le_refl _) (.cells #[.int .i64 d.p,.int .i64 d.v,.int .i64 d.u] 98);have hX:=aj.new w 98 #[.int .i64 d.p,.int .i64 d.v,.int .i64 d.u];obtain⟨W,hW⟩:∃W,W=w.alloc (.cells #[.int .i64 d.p,.int .i64 d.v,.int .i64 d.u] 98):=⟨_,rfl⟩;rw[←hW]at hB hX
 have hne:b≠w.heap.size:=fun e=>by have:=h.lt;omega
 have hC:=h.mod (Mod.of_below hB []) (by simp);have HL:=qd (And.intro h.lf h.gn);have hbk:=hC.blk;unfold fZ.cells at hbk;have x0:=hX.cell 0;have x1:=hX.cell 1;have x2:=hX.cell 2;have c17:=hbk.cell 17;have c18:=hbk.cell 18;have c19:=hbk.cell 19;simp only[gl]at x0 x1 x2 c17 c18 c19;have f17:=hbk.frozen 17;have f18:=hbk.frozen 18;have f19:=hbk.frozen 19;have HW:=qd hW;have HB:=qd hB;have HX:=qd hX;have HK:=qd hbk;unfold nG;clear h hW hB hX hC hbk;go_in;go_upto_region 1 with fail;rw[←HW.out];go_upto_region 2 with fail;have hnew:=((HK.out.ak 17 (.int .i64 d.p)).ak 18 (.int .i64 d.v)).ak 19 (.int .i64 d.u);have hm:=(((Mod.refl [b] W).sl 17 (.int .i64 d.p)).sl 18 (.int .i64 d.v)).sl 19 (.int .i64 d.u);simp only[pt]at hnew;refine aaq hnew hm ?_;clear hnew hm HK x0 x1 x2 c17 c18 c19 f17 f18 f19;rintro W1 ⟨hK,hm⟩;have HM:=qd ((Mod.of_below HB.out [b]).then hm);replace HX:=qd (HX.out.mod hm (by simp;omega));have HK:=qd hK;clear hK hm;have x0:=HX.out.cell 0;have x1:=HX.out.cell 1;have x2:=HX.out.cell 2;have c20:=HK.out.cell 20;have c21:=HK.out.cell 21;have Rt:=HK.out.cell 22;simp only[gl]at x0 x1 x2 c20 c21 Rt;clear Ed;have HP:=qd (fun V=>(show Calls Tryz.prog 82 #[.agg #[.int .i64 c.all.p,.int .i64 c.all.v,.int .i64 c.all.u],.agg #[.int .i64 d.p,.int .i64 d.v,.int .i64 d.u]] V fun e w'=>e= .returned (.agg #[.int .i64 s.p,.int .i64 s.v,.int .i64 s.u])∧Below V.heap.size V w' from jl.out V));clear jl
 refine rT (fun(w':World)=>w'.cell? ⟨w.heap.size,0,none⟩=some (.int .i64 d.p)∧w'.cell? ⟨w.heap.size,1,none⟩=some (.int .i64 d.v)∧w'.cell? ⟨w.heap.size,2,none⟩=some (.int .i64 d.u)∧w'.cell? ⟨b,20,none⟩=some (.int .i64 c.all.p)∧w'.cell? ⟨b,21,none⟩=some (.int .i64 c.all.v)∧w'.cell? ⟨b,22,none⟩=some (.int .i64 c.all.u)) [9] ?_;have hHeld:=(⟨x0,x1,x2,c20,c21,Rt⟩:_∧_∧_∧_∧_∧_);refine vW 0 rfl ?_;refine vW 1 rfl ?_;refine vW 2 rfl ?_;refine vW 3 rfl ?_;refine vT 4 rfl ?_;refine vT 5 rfl ?_;refine nT 6 rfl fun K hK=> ?_;go_simp;refine(HP.out _).mono ?_;rintro y W2 ⟨rfl,hb⟩;replace hb:Below W1.heap.size W1 W2:=bP hb (Below.refl _ _).drew;replace HK:=qB hb HK;replace HX:=qB hb HX;replace HM:=qd (HM.out.then (Mod.of_below hb [b]));clear hb HP x0 x1 x2 c20 c21 Rt;have x0:=HX.out.cell 0;have x1:=HX.out.cell 1;have x2:=HX.out.cell 2;have c20:=HK.out.cell 20;have c21:=HK.out.cell 21;have Rt:=HK.out.cell 22;simp only[gl]at x0 x1 x2 c20 c21 Rt;go_wp2_with fail;have hHeld:=(⟨x0,x1,x2,c20,c21,Rt⟩:_∧_∧_∧_∧_∧_);refine kO hK ?_;clear hK K;refine vW 7 rfl ?_;refine vW 8 rfl ?_;refine nT 9 rfl fun K hK=> ?_;have f20:=HK.out.frozen 20;have f21:=HK.out.frozen 21;have f22:=HK.out.frozen 22;have hnew:=((HK.out.ak 20 (.int .i64 s.p)).ak 21 (.int .i64 s.v)).ak 22 (.int .i64 s.u);have hm:=(((Mod.refl [b] W2).sl 20 (.int .i64 s.p)).sl 21 (.int .i64 s.v)).sl 22 (.int .i64 s.u);simp only[pt]at hnew;have HN:=qd hnew;have HQ:=qd (HM.out.then hm);clear hnew hm;go_simp;refine kO hK ?_;clear hK K
 refine aR (by kernel_rfl) ?_ _;go_wp2;go_end0;exact⟨rfl,⟨HN.out,HL.out.1,HL.out.2⟩,HQ.out⟩
def Wrote (w:World)(b:Nat)(c:fZ)(w':World):Prop:=∃(lf gn:Nat) (ma ml last all:bq),lf≤c.lf∧sF w' b {c with lf:=lf,gn:=gn,ma:=ma,ml:=ml,last:=last,all:=all}∧Mod [b] w w'
theorem Pf (h:sF w b c)(hk:1≤c.k∧c.k≤64)(d:bq):Calls Tryz.prog 56 #[pQ b,nG d] w fun y w'=>y= .returned undef∧Wrote w b c w':=by
 have hB:=(Below.refl w.heap.size w).alloc (Nat.le_refl _) (.cells #[.int .i64 d.p,.int .i64 d.v,.int .i64 d.u] 98);have hX:=aj.new w 98 #[.int .i64 d.p,.int .i64 d.v,.int .i64 d.u];obtain⟨W,hW⟩:∃W,W=w.alloc (.cells #[.int .i64 d.p,.int .i64 d.v,.int .i64 d.u] 98):=⟨_,rfl⟩;rw[←hW]at hB hX
 have hne:b≠w.heap.size:=fun e=>by have:=h.lt;omega
 have hC:=h.mod (Mod.of_below hB []) (by simp);have HC:=qd hC;have jr:=qd (EN b _ _ _ 8 _ _ 0 W (Pe hC.blk));have HW:=qd hW;have HM:=qd (Mod.of_below hB [b]);have HX:=qd hX;obtain⟨bx,hbx⟩:∃bx,bx=w.heap.size:=⟨_,rfl⟩;rw[←hbx]at HX hne;have eH:=qd hne;unfold nG;clear h hW hB hX hC hne;go_in;go_upto_region 1 with fail;rw[←HW.out];rw[←hbx];clear hbx;go_wp2_with fail;refine jr.out.mono ?_;rintro y W1 ⟨rfl,hm1,hm⟩;have h1:=aaI hm1;replace HX:=qd (HX.out.mod hm (fun hh=>eH.out (List.mem_singleton.1 hh).symm));replace HM:=qd (HM.out.then hm);have wO:=qd (show sF W1 b {c with ml:=⟨0,0,0⟩} from⟨h1,HC.out.lf,HC.out.gn⟩);clear hm1 hm jr HC;have hbk:=h1;unfold fZ.cells at hbk;obtain⟨c0,c1,c2⟩:=hbk.c3;clear h1 hbk;have KN:=qd (show∀V,Calls Tryz.prog 84 #[.agg #[.int .i64 c.k,.int .i64 c.m,.int .i64 c.i]] V _ from fun V=>WQ c.k c.m c.i hk V);go_upto_region 2 with fail;refine rT (fun(w':World)=>w'.cell? ⟨b,0,none⟩=some (.int .i64 c.k)∧w'.cell? ⟨b,1,none⟩=some (.int .i64 c.m)∧w'.cell? ⟨b,2,none⟩=some (.int .i64 c.i)) [11] ?_;have hHeld:=(⟨c0,c1,c2⟩:_∧_∧_);refine vW 0 rfl ?_;refine vW 1 rfl ?_;refine vW 2 rfl ?_;refine vW 3 rfl ?_;refine vW 4 rfl ?_;refine vW 5 rfl ?_;refine vW 6 rfl ?_;refine vW 7 rfl ?_;refine vW 8 rfl ?_;refine vT 9 rfl ?_;refine nT 10 rfl fun K hK=> ?_;go_simp;refine(KN.out _).mono ?_;rintro y W2 ⟨rfl,hb⟩;replace hb:Below W1.heap.size W1 W2:=bP hb (Below.refl _ _).drew;replace wO:=qB hb wO;replace HX:=qB hb HX
 replace HM:=qd (HM.out.then (Mod.of_below hb [b]));replace c0:=aI hb c0;replace c1:=aI hb c1;replace c2:=aI hb c2;clear hb KN;go_wp2_with fail;have hHeld:=(⟨c0,c1,c2⟩:_∧_∧_);refine kO hK ?_;clear hK K;refine nT 11 rfl fun K hK=> ?_;go_simp;obtain⟨n4,hn4⟩:∃n4:Nat,4*c.k=(n4:Int):=⟨(4*c.k).toNat,by omega⟩;rw[hn4];have Co:=qd (TT wO.out n4 (by omega));refine Co.out.mono ?_;rintro y W3 ⟨dn,rfl,lf,gn,ma,ml,g1,g2,g3⟩;replace HX:=qd (HX.out.mod g3 (fun hh=>eH.out (List.mem_singleton.1 hh).symm));replace HM:=qd (HM.out.then g3);have mU:=qd g2;have qh:=qd g1;clear g1 g2 g3 Co hn4 wO c0 c1 c2;go_wp2_with fail;refine kO hK ?_;clear hK K;refine aR (by kernel_rfl) ?_ _;go_upto_region 3 with fail;obtain⟨C3,Cu⟩:∃C3:fZ,C3={c with lf:=lf,gn:=gn,ma:=ma,ml:=ml}:=⟨_,rfl⟩;replace mU:=qd (show sF W3 b C3 from Cu▸mU.out);have fK:=qd (show Calls Tryz.prog 55 #[.pointer (some ⟨b,8,none⟩)] (World.drew W3) _ from I6 (Pe (mU.out.mod (Mod.of_below (Below.refl W3.heap.size W3).drew []) (by simp)).blk));have jl:=qd (fun V=>Bj d C3.ml V);obtain⟨s,hs⟩:∃s,s=ji d C3.ml:=⟨_,rfl⟩;rw[←hs]at jl;unfold nG at fK jl;have HQ:=qd Cu;clear hs Cu;obtain⟨x0,x1,x2⟩:=HX.out.c3;refine rT (fun(w':World)=>w'.cell? ⟨bx,0,none⟩=some (.int .i64 d.p)∧w'.cell? ⟨bx,1,none⟩=some (.int .i64 d.v)∧w'.cell? ⟨bx,2,none⟩=some (.int .i64 d.u)) [6,7] ?_;have hHeld:=(⟨x0,x1,x2⟩:_∧_∧_);refine vW 0 rfl ?_;refine vT 1 rfl ?_;refine vW 2 rfl ?_;refine vW 3 rfl ?_;refine vW 4 rfl ?_;refine nT 5 rfl fun K hK=> ?_;go_simp
 refine(fK.out).mono ?_;rintro y W4 ⟨rfl,hb⟩;replace hb:Below W3.heap.size W3 W4:=bP hb (Below.refl _ _).drew;replace mU:=qB hb mU;replace HM:=qd (HM.out.then (Mod.of_below hb [b]));replace x0:=aI hb x0;replace x1:=aI hb x1;replace x2:=aI hb x2;clear hb fK;go_wp2_with fail;have hHeld:=(⟨x0,x1,x2⟩:_∧_∧_);refine kO hK ?_;clear hK K;refine nT 6 rfl fun K hK=> ?_;go_simp;refine(jl.out _).mono ?_;rintro y W5 ⟨rfl,hb⟩;replace mU:=qB hb mU;replace HM:=qd (HM.out.then (Mod.of_below hb [b]));clear hb jl x0 x1 x2;go_wp2_with fail;refine kO hK ?_;clear hK K;refine nT 7 rfl fun K hK=> ?_;go_simp;have Ll:=qd (show Calls Tryz.prog 53 #[pQ b,.agg #[.int .i64 s.p,.int .i64 s.v,.int .i64 s.u]] W5 _ from yJ mU.out s);refine(Ll.out).mono ?_;rintro y W6 ⟨rfl,h6,m6⟩;have HE:=qd (show Wrote w b c W6 from⟨lf,gn,ma,ml,s,ji C3.all s,qh.out,by have h7:=h6;rw[HQ.out]at h7⊢;exact h7,HM.out.then m6⟩);clear h6 m6 Ll;go_wp2_with fail;refine kO hK ?_;clear hK K;refine aR (by kernel_rfl) ?_ _;go_wp2;go_end0;exact⟨rfl,HE.out⟩
end
end
section
def jL (W0:World)(E:Nat→Addr)(H:Nat→Nat)(K M mb:Nat)(G:List Nat)(w:World)(a:Pool)(ids:List Nat)(c:bq):Prop:=
 ∃(C:iF) (F:List Nat) (len:Nat) (b:Int) (x:bL),C.mb=mb∧C.K=K∧C.M=M∧G=C.foot F∧aB W0 E H C w (C.foot F) w F ⟨a,ids,len,b,x⟩∧jV a ids []∧len=a.ents.length∧len≤M∧x.last=c
def Pg (c:bq):Prop:=0≤c.p∧c.p≤192∧c.u=0
section
variable {W0 : World} {E : Nat → Addr} {H : Nat → Nat} {K M mb : Nat} {G : List Nat} {w w' : World} {a : Pool} {ids : List Nat} {c : bq}
theorem jL.at_ (h:jL W0 E H K M mb G w a ids c):gN W0 E H K M mb G w a ids:=by
 obtain⟨C,F,len,b,x,h1,h2,h3,h4,h5,h6,h7,h8,_⟩:=h;exact⟨C,F,len,b,x,h1,h2,h3,h4,h5,h6,h7,h8⟩
theorem gN.c_ (h:gN W0 E H K M mb G w a ids):∃c,jL W0 E H K M mb G w a ids c:=by
 obtain⟨C,F,len,b,x,h1,h2,h3,h4,h5,h6,h7,h8⟩:=h;exact⟨_,C,F,len,b,x,h1,h2,h3,h4,h5,h6,h7,h8,rfl⟩
theorem tN (cb:Nat)(w:World):Calls Tryz.prog 54 #[pQ cb] w fun y w'=>y= .returned (.pointer (some ⟨cb,3,none⟩))∧w=w':=by
 go_in;go_wp2;go_ret;exact⟨rfl,rfl⟩
theorem AL (h:jL W0 E H K M mb G w a ids c):Calls Tryz.prog 55 #[.pointer (some ⟨mb,3,none⟩)] w fun y w'=>y= .returned (nG c)∧Below w.heap.size w w':=by
 obtain⟨C,F,len,b,x,h1,h2,h3,h4,h5,h6,h7,h8,h9⟩:=h;rw[←h1,←h9];exact I6 (show Met w C.mb _ _ _ 3 x.all x.last C.m from h5.aD.met)
theorem jL.mod {S:List Nat}(h:jL W0 E H K M mb G w a ids c)(hm:Mod S w w')(hS:∀q∈S,q∉G∧W0.heap.size≤q):jL W0 E H K M mb G w' a ids c:=by
 obtain⟨C,F,len,b,x,h1,h2,h3,rfl,hC,hi,hl,hm',hx⟩:=h
 have hd:∀q∈S,q≠C.mb∧q∉C.s.blocks∧q∉F∧C.v.ownBlock≠some q:=fun q hq=>by
  have:=(hS q hq).1;rw[aZ]at this;simp only[not_or]at this;exact this
 refine⟨C,F,len,b,x,h1,h2,h3,rfl,⟨bD.start (hC.aD.aD.mod hm (fun q hq dK=>(hd q dK).2.1 hq)) (hC.hp.zK hC.aD.pool hm (fun q hq dK=>(hd q dK).2.2.1 hq)) (hC.aD.met.mod hm (fun hq=>(hd _ hq).1 rfl)) (hC.aD.env.mod hm (fun q hq=>(hS q hq).2)) hC.aD.apart hC.aD.rZ,jJ hC.row hm (fun k hk IX=>(hd k IX).2.2.2 hk),hC.Az,hC.pos,hC.kk,hC.mm, ?_,fun q hq=> .inl hq,Mod.refl _ _⟩,hi,hl,hm',hx⟩;have:=hC.aD.env.size;have:=hm.size;omega
theorem jL.below (h:jL W0 E H K M mb G w a ids c)(hb:Below w.heap.size w w'):jL W0 E H K M mb G w' a ids c:=h.mod (Mod.of_below hb []) (by simp)
theorem WR (h:gN W0 E H K M mb G w a ids)(key hash:Nat)(h64:hash<18446744073709551616):Calls Tryz.prog 129 #[bg mb,nU hash,nU key] w fun y w'=>
  ∃(o:Option av) (hi:Nat) (c:bq) (G':List Nat),y= .returned (.tuple #[aP (o.getD ⟨0,0,0⟩),.bool o.isSome,nU hi])∧(hash≤hi∧hi<18446744073709551616∧hi∈jB a∧(∀x∈jB a,hash≤x→hi≤x)∧fU ⟨key,0,hash⟩ (upto a.ents hi) o)∧Pg c∧jL W0 E H K M mb G' w' a ids c∧(∀q∈G',q∈G∨w.heap.size≤q)∧Mod G w w':=by
 obtain⟨f1,f2,f3,f4,f5,f6,_⟩:=h.facts;obtain⟨C,F,len,b,x,h1,h2,h3,rfl,hC,hi,hl,hm⟩:=h;rw[←h1];refine(TR hC hi key hash h64).mono ?_;rintro y w' ⟨v,rfl,id,N,o,x',hN,hid,hIs,rfl,hc,hco⟩;replace hN:a.Ns[id]?=some N:=hN;replace hid:id=a.l.getD (dQ hash a.d) 0:=hid;obtain⟨N',hN',htop⟩:=f1.dir.at_ h64 f2;rw[←hid,hN]at hN';cases hN';have hok:=f6 id N hN;obtain⟨r1,r2⟩:=vZ.1 htop;have hlow:=Bd (d:=N.au) (p:=N.pfx) (by have:=hok.deep;omega) hok.pfx;have hp:=pos2 (64-N.au);obtain⟨k1,k2,k3,k4⟩:=hco (Int.le_refl _) (Int.le_refl _)
 have aeA:kY N.pfx N.au<18446744073709551616:=by unfold nD at hlow;unfold kY;omega
 refine⟨o,kY N.pfx N.au,x'.last,_,rfl,⟨r2,aeA,List.mem_map.2 ⟨N,List.mem_of_getElem? hN,rfl⟩,fun x hx hle=> ?_,Qk hIs (fun e he hle=> ?_) (fun e he=> ?_)⟩,⟨k1,by simp only at k2;omega,by simp only at k4;omega⟩,⟨C,F,len,b,x',rfl,h2,h3,rfl,hc.again,hi,hl,hm,rfl⟩,hc.sub,hc.mod⟩
 ·obtain⟨N2,hN2,rfl⟩:=List.mem_map.1 hx;obtain⟨j,hj⟩:=List.mem_iff_getElem?.1 hN2;by_cases hlt:kY N2.pfx N2.au<kY N.pfx N.au
  ·have e1:=f1.dir.OV (by omega) f2 hN (vZ.2 ⟨Nat.le_trans r1 hle,Nat.le_of_lt hlt⟩);have e2:=f1.dir.OV (by omega) f2 hj (vZ.2 ⟨by unfold nD kY;have:=pos2 (64-N2.au);omega,Nat.le_refl _⟩);rw[e1]at e2;subst e2;rw[hN]at hj;cases hj;exact Nat.le_refl _
  ·omega
 ·obtain⟨g1,g2⟩:=pz.1 he;obtain⟨j,M',k1,k2⟩:=lX.1 g1;obtain⟨k3,k4⟩:=(f6 j M' k1).hash e k2;have e1:=f1.dir.OV k3.h64 f2 k1 k4;have e2:=f1.dir.OV k3.h64 f2 hN (vZ.2 ⟨by have:=Lj hle;omega,g2⟩);rw[e1]at e2;subst e2;rw[hN]at k1;cases k1;exact k2
 ·obtain⟨k3,k4⟩:=hok.hash e he;exact pz.2 ⟨lX.2 ⟨id,N,hN,he⟩,(vZ.1 k4).2⟩
def BK (H:Nat→Nat)(K M:Nat)(a:Pool)(ids:List Nat)(e:av)(a':Pool)(aK:List Nat):Prop:=a'.ents.Perm (JU M a.ents e)∧(look a.ents e.key=none→a.ents.length<M→WI H K a ids [] [e] a' aK)
theorem aby (h:gN W0 E H K M mb G w a ids)(e:av)(he:mG H e):Calls Tryz.prog 52 #[bg mb,nU e.key,nU e.val,nU e.hash] w fun y w'=>
  y= .returned (jf E (tL M a.ents e.key))∧∃a' aK,jS W0 E H K M mb G w w' a' aK∧BK H K M a ids e a' aK:=by
 obtain⟨f1,f2,f3,f4,f5,f6,_,_,_,f10,_⟩:=h.facts;refine(acU h e he).mono ?_;rintro y w' (⟨h1,h2,rfl,hto⟩|⟨a',aK,h1,h2,rfl,hw,hto⟩|⟨a',aK,e0,h1,rfl,hw,hto⟩)
 ·have hf:tK M a.ents e.key=true:=by simp[tK,h1,h2]
  unfold BK tL JU;rw[hf];exact⟨rfl,a,ids,hto,.refl _,fun _ hl=>by omega⟩
 ·have hf:tK M a.ents e.key=false:=by simp[tK,h1];omega
  unfold BK tL JU;rw[hf,zn h1];have hw0:=hw;obtain⟨_,_,_,_,_,_,⟨r,hr1,hr2⟩,_⟩:=hw;have h3:(e::r).Perm (e::a.ents):= .cons e hr1.symm;exact⟨rfl,a',aK,hto,hr2.trans (h3.trans (List.perm_append_singleton e a.ents).symm),fun _ _=>hw0⟩
 ·have hf:tK M a.ents e.key=false:=by simp[tK,h1]
  unfold BK tL JU;rw[hf];obtain⟨_,_,_,_,_,_,⟨r,hr1,hr2⟩,_⟩:=hw;obtain⟨m1,m2⟩:=nK h1;obtain⟨j,N,k1,k2⟩:=lX.1 m1;obtain⟨k3,_⟩:=(f6 j N k1).hash e0 k2
  have hee:({e0 with val:=e.val}:av)=e:=by
   have h4:e0.hash=e.hash:=by rw[k3.hash,m2,he.hash]
   obtain⟨a1,a2,a3⟩:=e;simp only at m2 h4;simp[m2,h4]
  rw[hee]at hr2;have h3:=zo f10 hr1;rw[m2]at h3;exact⟨rfl,a',aK,hto,hr2.trans ((List.Perm.cons e h3.symm).trans (List.perm_append_singleton e _).symm),fun hl=>by rw[h1]at hl;cases hl⟩
end
end
section
structure gP where
 hash:Nat
 key:Nat
 done:Bool
def behind (hash key:Nat):gP:=if key<18446744073709551615 then⟨hash,key+1,false⟩else if hash<18446744073709551615 then⟨hash+1,0,false⟩else⟨0,0,true⟩
def gP.ok (c:gP):Prop:=c.hash<18446744073709551616∧c.key<18446744073709551616
def gP.cells (c:gP):Array Value:= #[nU c.key,.int .u64 0,nU c.hash,.bool c.done]
def fB (w:World)(b:Nat)(c:gP):Prop:=aj w b 224 c.cells
theorem fB.blk {w:World}{b:Nat}{c:gP}(h:fB w b c):aj w b 224 #[nU c.key,.int .u64 0,nU c.hash,.bool c.done]:=h
theorem fB.lt {w:World}{b:Nat}{c:gP}(h:fB w b c):b<w.heap.size:=aj.lt h
theorem fB.mod {S:List Nat}{w w':World}{b:Nat}{c:gP}(h:fB w b c)(hm:Mod S w w')(hb:b∉S):fB w' b c:=aj.mod h hm hb
instance {w w':World}{b:Nat}{c:gP}:Md (fB w b c) w w' (fB w' b c) (fun S=>b∉S):=⟨fun h hm hs=>fB.mod h hm hs⟩
theorem TU (p:Addr)(w:World):
  CallsD Tryz.prog 75 #[.pointer (some p)] .returning w fun e u' w'=>e= .returned (.tuple #[])∧u'= .returning∧w'=w:=by
 refine callsD_of_wpS Tryz.func75 rfl fun c₀ cs hu=> ?_;apply wpS_seq;apply wpS_region;simp[wpOpsS,go_sem,recoverD,hu,Tryz.ntmps75,Exit.thenS];refine wpS_of_wp ?_;go_wp2;cases c₀
 simp_all[bodyPostS,results,Tryz.results75]
theorem abz (d:Nat)(fn:Fn)(a b:Array Value)(w:World):(Op.equalIn (d+1) 1 (.func fn a b) .nilFunc).run Tryz.prog w= .ok false w:=by simp[Op.equalIn,run_underlying Tryz.underlying1]
theorem adM (fn:Fn)(a b:Array Value)(w:World):(Op.equal 1 (.func fn a b) .nilFunc).run Tryz.prog w= .ok false w:=abz 9999 fn a b w
theorem BL {S:List Nat}{K:World→Prop}(G:FuncId)(cap:Array Value)(w:World)(hG:∀W:World,(callFunc G cap).run Tryz.prog W= .ok (.enter G cap) W)(hS:w.heap.size∉S)
  (hc:Calls Tryz.prog G cap (w.alloc (.cells #[.nilIface] 28)) fun e w1=>e= .returned (.tuple #[])∧Mod S (w.alloc (.cells #[.nilIface] 28)) w1∧K w1):
  Calls Tryz.prog 50 #[.func (.func G) #[] cap] w fun e w1=>e= .returned .nilIface∧Mod S (w.alloc (.cells #[.nilIface] 28)) w1∧K w1:=by
 have oz:∀(fn:Fn) (first cap:Array Value) (w:World),(Instr.makeFunc fn first cap).run Tryz.prog w= .ok (.func fn first cap) w:=fun _ _ _ _=>rfl
 have hq:∀W:World,(binOp .eql 1 (.func (.func G) #[] cap) .nilFunc).run Tryz.prog W= .ok (.bool false) W:=fun W=>by
  simp only[binOp];simp[adM]
 have HC:=qd hc;clear hc;go_enter_defers Tryz.func50,Tryz.ntmps50;go_wp2_with fail;refine HC.out.mono ?_;rintro y w1 ⟨rfl,hm,hk⟩;have hB:=(aj.new w 28 #[.nilIface]).mod hm hS;have hid:=hB.AZ (i:=0) (u:= .nilIface) rfl;have c0:=hB.cell 0;have f0:=hB.frozen 0;simp only[List.getElem?_toArray,List.getElem?_cons_zero]at c0;have HI:=qd hid;have HM:=qd hm;have HK:=qd hk;clear hB hid hm hk HC;go_wp2;rw[HI.out];refine leaves_cons (f:=75) (args:= #[pQ w.heap.size]) (by simp) (by simp[go_sem]) ?_;refine(TU ⟨w.heap.size,0,none⟩ _).mono ?_;rintro e u' w2 ⟨rfl,rfl,rfl⟩;simp[Leaves,settle,results,Tryz.results50,go_sem,c0];exact⟨HM.out,HK.out⟩
theorem FE (e:av)(hk:e.key<18446744073709551616)(hh:e.hash<18446744073709551616)(w:World):Calls Tryz.prog 191 #[aP e] w fun y w'=>y= .returned (.tuple #[.int .u64 ((behind e.hash e.key).hash:Int),.int .u64 ((behind e.hash e.key).key:Int),.bool (!(behind e.hash e.key).done)])∧Below w.heap.size w w':=by
 have hB:=(Below.refl w.heap.size w).alloc (Nat.le_refl _) (.cells #[nU e.key,nU e.val,nU e.hash] 166);have hE:=aj.new w 166 #[nU e.key,nU e.val,nU e.hash];obtain⟨W,hW⟩:∃W,W=w.alloc (.cells #[nU e.key,nU e.val,nU e.hash] 166):=⟨_,rfl⟩;rw[←hW]at hB hE;have c0:=hE.cell 0;have c2:=hE.cell 2;simp only[gl]at c0 c2;have HW:=qd hW;have HB:=qd hB;clear hW hB hE;unfold aP behind;by_cases h1:e.key<18446744073709551615
 ·rw[if_pos h1]
  have hlt:(e.key:Int)<18446744073709551615:=by omega
  have hw:IntKind.u64.wrap ((e.key:Int)+1)=((e.key+1:Nat):Int):=by rw[IntKind.wrap_u64];omega
  go_in;go_upto_region 1 with fail;rw[←HW.out];go_upto_region 2 with fail;go_region;go_wp2;refine bodyPost_ret (v:= .tuple #[nU e.hash,.int .u64 ((e.key+1:Nat):Int),.bool true]) (by simp[results,Tryz.results191,go_sem]) rfl ⟨rfl,HB.out.drew⟩
 ·have hlt:¬(e.key:Int)<18446744073709551615:=by omega
  rw[if_neg h1];by_cases h2:e.hash<18446744073709551615
  ·rw[if_pos h2]
   have hlt2:(e.hash:Int)<18446744073709551615:=by omega
   have hw:IntKind.u64.wrap ((e.hash:Int)+1)=((e.hash+1:Nat):Int):=by rw[IntKind.wrap_u64];omega
   go_in;go_upto_region 1 with fail;rw[←HW.out];go_wp2;refine bodyPost_ret (v:= .tuple #[.int .u64 ((e.hash+1:Nat):Int),.int .u64 0,.bool true]) (by simp[results,Tryz.results191,go_sem]) rfl ⟨rfl,HB.out⟩
  ·rw[if_neg h2]
   have hlt2:¬(e.hash:Int)<18446744073709551615:=by omega
   go_in;go_upto_region 1 with fail;rw[←HW.out];go_wp2;refine bodyPost_ret (v:= .tuple #[.int .u64 0,.int .u64 0,.bool false]) (by simp[results,Tryz.results191,go_sem]) rfl ⟨rfl,HB.out⟩
theorem TV (w:World):Calls Tryz.prog 126 #[] w fun y w'=>y= .returned (pQ w.heap.size)∧fB w' w.heap.size ⟨0,0,false⟩∧Below w.heap.size w w':=by
 go_in;go_wp2;go_ret;exact⟨rfl,aj.new _ _ _,(Below.refl _ _).alloc (Nat.le_refl _) _⟩
section
variable {w : World} {b : Nat} {c : gP}
theorem WS (h:fB w b c):Calls Tryz.prog 128 #[pQ b] w fun y w'=>y= .returned (.tuple #[nU c.hash,nU c.key])∧Below w.heap.size w w':=by
 have c0:=h.blk.cell 0;have c2:=h.blk.cell 2;simp only[gl]at c0 c2;clear h;go_in;go_upto_region 1 with fail;go_region;go_wp2;refine bodyPost_ret (v:= .tuple #[nU c.hash,nU c.key]) (by simp[results,Tryz.results128,go_sem]) rfl ⟨rfl,(Below.refl _ _).drew⟩
theorem FH (h:fB w b c):Calls Tryz.prog 89 #[pQ b] w fun y w'=>y= .returned (.bool c.done)∧w=w':=by
 have c3:=h.blk.cell 3;simp only[gl]at c3;clear h;go_in;go_wp2;go_ret;exact⟨rfl,rfl⟩
theorem TW (h:fB w b c):Calls Tryz.prog 241 #[pQ b] w fun y w'=>y= .returned undef∧fB w' b ⟨0,0,true⟩∧Mod [b] w w':=by
 obtain⟨c0,c1,c2,c3⟩:=h.blk.c4;obtain⟨f0,f1,f2,f3⟩:=h.blk.f4;have hn:=(((h.blk.ak 0 (.int .u64 0)).ak 1 (.int .u64 0)).ak 2 (.int .u64 0)).ak 3 (.bool true);simp only[pt]at hn;have HN:=qd (And.intro hn (((((Mod.refl [b] w).sl 0 (.int .u64 0)).sl 1 (.int .u64 0)).sl 2 (.int .u64 0)).sl 3 (.bool true)));clear h hn;go_in;go_wp2;go_end0;exact⟨rfl,HN.out⟩
theorem Ml (h:fB w b c)(hd:c.done=false)(e:av):Calls Tryz.prog 189 #[pQ b,aP e] w fun y w'=>y= .returned (.bool (bF e ⟨c.key,0,c.hash⟩))∧Below w.heap.size w w':=by
 have hB:=(Below.refl w.heap.size w).alloc (Nat.le_refl _) (.cells #[nU e.key,nU e.val,nU e.hash] 166);have hE:=aj.new w 166 #[nU e.key,nU e.val,nU e.hash];obtain⟨W,hW⟩:∃W,W=w.alloc (.cells #[nU e.key,nU e.val,nU e.hash] 166):=⟨_,rfl⟩;rw[←hW]at hB hE;have hC:fB W b c:=h.mod (Mod.of_below hB []) (by simp);obtain⟨c0,c1,c2,c3⟩:=hC.blk.c4;rw[hd]at c3;obtain⟨e0,e1,e2⟩:=hE.c3;have HL:=qd (fun V=>jU e ⟨c.key,0,c.hash⟩ V);have HW:=qd hW;have HB:=qd hB;unfold aP at HL⊢;simp only[Int.natCast_zero]at HL;clear hW hB hE hC h;go_in;go_upto_region 1 with fail;rw[←HW.out];refine rT (fun(w':World)=>w'.cell? ⟨w.heap.size,0,none⟩=some (nU e.key)∧w'.cell? ⟨w.heap.size,1,none⟩=some (nU e.val)∧w'.cell? ⟨w.heap.size,2,none⟩=some (nU e.hash)∧w'.cell? ⟨b,0,none⟩=some (nU c.key)∧w'.cell? ⟨b,1,none⟩=some (.int .u64 0)∧w'.cell? ⟨b,2,none⟩=some (nU c.hash)∧w'.cell? ⟨b,3,none⟩=some (.bool false)) [10] ?_;have hHeld:=(⟨e0,e1,e2,c0,c1,c2,c3⟩:_∧_∧_∧_∧_∧_∧_);refine vW 0 rfl ?_;refine vW 1 rfl ?_;refine vW 2 rfl ?_;refine vT 3 rfl ?_;refine vW 4 rfl ?_;refine vT 5 rfl ?_;refine vW 6 rfl ?_;refine vW 7 rfl ?_;refine vW 8 rfl ?_;refine vT 9 rfl ?_;refine nT 10 rfl fun K hK=> ?_;go_simp;refine(HL.out _).mono ?_;rintro y W1 ⟨rfl,hb⟩;replace hb:Below W.heap.size W W1:=bP hb (Below.refl _ _).drew;replace HB:=qd (bP hb HB.out);clear hb;go_wp2_with fail;refine kO hK ?_;clear hK K;refine vL 11 rfl ?_;refine vL 12 rfl ?_;refine aR (by kernel_rfl) ?_ _;go_wp2;go_ret;exact⟨rfl,HB.out⟩
theorem FI (h:fB w b c)(c':gP)(hd:c.done=false)(h0:c'.done=true→c'=⟨0,0,true⟩):Calls Tryz.prog 190 #[pQ b,nU c'.hash,nU c'.key,.bool (!c'.done)] w fun y w'=>y= .returned undef∧fB w' b c'∧Mod [b] w w':=by
 have HE:=qd (TW h);obtain⟨c0,c1,c2,c3⟩:=h.blk.c4;obtain⟨f0,f1,f2,f3⟩:=h.blk.f4;have hn:=((h.blk.ak 0 (nU c'.key)).ak 1 (.int .u64 0)).ak 2 (nU c'.hash);simp only[pt]at hn;have HN:=qd (And.intro hn ((((Mod.refl [b] w).sl 0 (nU c'.key)).sl 1 (.int .u64 0)).sl 2 (nU c'.hash)));clear h hn
 cases hc:c'.done with
 |true=>
  have:=h0 hc;subst this;go_in;go_wp2_with fail;refine HE.out.mono ?_;rintro y w1 ⟨rfl,hC,hm⟩;go_wp2;refine bodyPost_ret (results_none rfl _ _ _) rfl ?_;exact⟨rfl,hC,hm⟩
 |false=>
  have HD:=qd hd;have HQ:=qd hc;clear hd hc h0;go_in;go_wp2;go_end0;refine⟨rfl, ?_,HN.out.2⟩;have h1:=HN.out.1;unfold fB gP.cells;rw[HQ.out];rw[HD.out]at h1;exact h1
theorem I7 {h k:Nat}(hd:(behind h k).done=true):behind h k=⟨0,0,true⟩:=by
 unfold behind at hd⊢;split
 ·rename_i h1;rw[if_pos h1]at hd;cases hd
 ·rename_i h1;rw[if_neg h1]at hd;split
  ·rename_i h2;rw[if_pos h2]at hd;cases hd
  ·rfl
theorem Qm (h:fB w b c)(hd:c.done=false)(e:av)(hk:e.key<18446744073709551616)(hh:e.hash<18446744073709551616)(hl:bF e ⟨c.key,0,c.hash⟩=false):Calls Tryz.prog 130 #[pQ b,aP e] w fun y w'=>y= .returned .nilIface∧fB w' b (behind e.hash e.key)∧Mod [b] w w':=by
 have hB:=(Below.refl w.heap.size w).alloc (Nat.le_refl _) (.cells #[nU e.key,nU e.val,nU e.hash] 166);have hE:=aj.new w 166 #[nU e.key,nU e.val,nU e.hash];obtain⟨W,hW⟩:∃W,W=w.alloc (.cells #[nU e.key,nU e.val,nU e.hash] 166):=⟨_,rfl⟩;rw[←hW]at hB hE;have hC:fB W b c:=h.mod (Mod.of_below hB []) (by simp);have p9:=qd (Ml hC hd e);rw[hl]at p9;have Ru:=qd (fun V=>FE e hk hh V);have HC:=qd hC;have HE:=qd hE;have HW:=qd hW;have HB:=qd hB;have HD:=qd hd;obtain⟨e0,e1,e2⟩:=hE.c3;unfold aP at p9 Ru⊢;clear hW hB hE hC h hd hl;go_in;go_upto_region 1 with fail;rw[←HW.out];go_wp2_with fail;refine p9.out.mono ?_;rintro y w1 ⟨rfl,hb⟩;replace HC:=qB hb HC;replace HE:=qB hb HE;replace HB:=qd (bP hb HB.out);clear hb p9 e0 e1 e2;obtain⟨e0,e1,e2⟩:=HE.out.c3;go_wp2_with fail;refine(Ru.out _).mono ?_;rintro y w2 ⟨rfl,hb⟩;replace HC:=qB hb HC;replace HB:=qd (bP hb HB.out);clear hb Ru e0 e1 e2;have HM:=qd (FI HC.out (behind e.hash e.key) HD.out I7);go_wp2_with fail;refine HM.out.mono ?_;rintro y w3 ⟨rfl,Cu,hm⟩;have mU:=qd Cu;have Nc:=qd ((Mod.of_below HB.out [b]).then hm);clear Cu hm;go_wp2;go_ret;exact⟨rfl,mU.out,Nc.out⟩
theorem Qn (h:fB w b c)(hd:c.done=false)(high:Nat)(hh:high<18446744073709551616)(hl:c.hash≤high):Calls Tryz.prog 131 #[pQ b,nU high] w fun y w'=>y= .returned .nilIface∧fB w' b (behind high 18446744073709551615)∧Mod [b] w w':=by
 have c2:=h.blk.cell 2;have c3:=h.blk.cell 3;simp only[gl]at c2 c3;rw[hd]at c3
 have hle:¬(high:Int)<(c.hash:Int):=by omega
 have Ru:=qd (show∀V,Calls Tryz.prog 191 #[.agg #[.int .u64 18446744073709551615,.int .u64 0,nU high]] V _ from fun V=>FE ⟨18446744073709551615,0,high⟩ (by simp only;omega) hh V);have HC:=qd h;have HD:=qd hd;clear h hd hl;go_in;go_wp2_with fail;refine(Ru.out _).mono ?_;rintro y w2 ⟨rfl,hb⟩;replace HC:=qB hb HC;have HB:=qd hb;clear hb Ru c2 c3;have HM:=qd (FI HC.out (behind high 18446744073709551615) HD.out I7);go_wp2_with fail;refine HM.out.mono ?_;rintro y w3 ⟨rfl,Cu,hm⟩;have mU:=qd Cu;have Nc:=qd ((Mod.of_below HB.out [b]).then hm);clear Cu hm;go_wp2;go_ret;exact⟨rfl,mU.out,Nc.out⟩
end
end
end Go.Proofs.YtnfjjbpmhcbelaaGreatDoor
