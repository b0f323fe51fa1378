/- What a map lets go a few at a time, and what it counts. No statement of the claim. -/
import Derived.Test.YtgkeameopnpinaaGreatDoorCoO
import Derived.Test.YtgkeameopnpinaaGreatDoorSqM
import Derived.Test.YtgkeameopnpinaaGreatDoorLaneP
import Derived.Test.YtgkeameopnpinaaGreatDoorCoAB
import Derived.Test.YtgkeameopnpinaaGreatDoorCoBQ
import Derived.Test.YtgkeameopnpinaaGreatDoorCoDA
import Derived.Test.YtgkeameopnpinaaGreatDoorKit2
import Derived.Defers
import Derived.Recover
namespace Go.Proofs.YtgkeameopnpinaaGreatDoor
set_option maxRecDepth 100000
set_option maxHeartbeats 4000000
open Go.RowKit bY
section
section
variable {w : World} {b o : Nat} {t : TypeId} {cs : Array Value}
theorem Un {n:Nat}(hp:1≤n∧n≤1099511627776)(h:aj w b t cs)(hn:cs[o]?=some (nI n)):Calls Tryz.prog 186 #[.pointer (some ⟨b,o,none⟩),.int .i64 1] w fun e w'=>e= .returned (.bool true)∧aj w' b t (cs.setIfInBounds o (.int .i64 ((n-1:Nat):Int)))∧Mod [b] w w':=by
 obtain⟨b0,b1⟩:=hp
 have hx1:¬(1:Int)>(n:Int):=by omega
 have c0:=(h.cell o).trans hn;have f0:=h.frozen o;have HS:=qd (And.intro (h.ak o (.int .i64 ((n-1:Nat):Int))) ((Mod.refl [b] w).sl o (.int .i64 ((n-1:Nat):Int))))
 have he:(n:Int)-1=((n-1:Nat):Int):=by omega
 clear h hn;go_in;go_wp2;go_ret;exact⟨rfl,HS.out⟩
theorem MZ (h:aj w b t cs)(hn:cs[o]?=some (.int .i64 0)):Calls Tryz.prog 186 #[.pointer (some ⟨b,o,none⟩),.int .i64 1] w fun e w'=>e= .returned (.bool false)∧w=w':=by
 have c0:=(h.cell o).trans hn;clear h hn;go_in;go_wp2;go_ret;exact⟨rfl,rfl⟩
theorem Oa {n k:Nat}(hp:n≤1099511627776∧k≤1099511627776)(h:aj w b t cs)(hn:cs[o]?=some (nI n)):Calls Tryz.prog 187 #[.pointer (some ⟨b,o,none⟩),nI k] w fun e w'=>∃d,d≤k∧n+d≤1099511627776∧e= .returned (nI d)∧aj w' b t (cs.setIfInBounds o (.int .i64 ((n+d:Nat):Int)))∧Mod [b] w w':=by
 obtain⟨b0,b1⟩:=hp;have c0:=(h.cell o).trans hn;have f0:=h.frozen o;have HS:=qd (fun u=>And.intro (h.ak o u) ((Mod.refl [b] w).sl o u))
 have hw1:IntKind.i64.wrap (1099511627776-(n:Int))=((1099511627776-n:Nat):Int):=by rw[IntKind.wrap_i64];omega
 have hx0:¬(k:Int)<0:=by omega
 clear h hn;by_cases hk:k≤1099511627776-n
 ·have hx1:¬((1099511627776-n:Nat):Int)<(k:Int):=by omega
  have hx2:max (k:Int) 0=(k:Int):=by omega
  have hx3:min (k:Int) ((1099511627776-n:Nat):Int)=(k:Int):=by omega
  have hw2:IntKind.i64.wrap ((n:Int)+(k:Int))=((n+k:Nat):Int):=by rw[IntKind.wrap_i64];omega
  go_in;go_wp2;go_ret;exact⟨k,Nat.le_refl _,by omega,rfl,HS.out _⟩
 ·obtain⟨d,hd⟩:∃d,d=1099511627776-n:=⟨_,rfl⟩;rw[←hd]at hw1
  have hx1:(d:Int)<(k:Int):=by omega
  have hx2:max (k:Int) 0=(k:Int):=by omega
  have hx3:min (k:Int) (d:Int)=(d:Int):=by omega
  have hw2:IntKind.i64.wrap ((n:Int)+(d:Int))=((n+d:Nat):Int):=by rw[IntKind.wrap_i64];omega
  have HD:=qd (show d≤k∧n+d≤1099511627776 from by omega);clear hd hk;go_in;go_wp2;go_ret;exact⟨d,HD.out.1,HD.out.2,rfl,HS.out _⟩
end
structure fQ where
 k:Int
 m:Int
 i:Int
 cb:Nat
 lf:Nat
 gn:Nat
 ma:aZ
 ml:aZ
 ib:Nat
 last:aZ
 all:aZ
def fQ.cells (c:fQ):Array Value:= #[.int .i64 c.k,.int .i64 c.m,.int .i64 c.i,pQ c.cb,nI c.lf,.float .f64 0,nI c.gn,.float .f64 0,.int .i64 c.ma.p,.int .i64 c.ma.v,.int .i64 c.ma.u,.int .i64 c.ml.p,.int .i64 c.ml.v,.int .i64 c.ml.u,.bool false,.int .i64 0,pQ c.ib,.int .i64 c.last.p,.int .i64 c.last.v,.int .i64 c.last.u,.int .i64 c.all.p,.int .i64 c.all.v,.int .i64 c.all.u]
structure qD (w:World)(b:Nat)(c:fQ):Prop where
 blk:aj w b 85 c.cells
 lf:c.lf≤1099511627776
 gn:c.gn≤1099511627776
def YP (c:fQ):List Value:=[.int .i64 c.k,.int .i64 c.m,.int .i64 c.i,pQ c.cb,nI c.lf,.float .f64 0,nI c.gn,.float .f64 0]
def Uo (c:fQ):List Value:=[pQ c.ib,.int .i64 c.last.p,.int .i64 c.last.v,.int .i64 c.last.u,.int .i64 c.all.p,.int .i64 c.all.v,.int .i64 c.all.u]
theorem M0 {w:World}{b:Nat}{c:fQ}(h:aj w b 85 c.cells):Met w b 85 (YP c) (Uo c) 8 c.ma c.ml 0:=⟨rfl,h⟩
theorem YQ {w:World}{b:Nat}{c:fQ}{a l:aZ}(h:Met w b 85 (YP c) (Uo c) 8 a l 0):aj w b 85 ({c with ma:=a,ml:=l}:fQ).cells:=h.blk
theorem qD.lt {w:World}{b:Nat}{c:fQ}(h:qD w b c):b<w.heap.size:=h.blk.lt
theorem qD.mod {S:List Nat}{w w':World}{b:Nat}{c:fQ}(h:qD w b c)(hm:Mod S w w')(hb:b∉S):qD w' b c:=⟨h.blk.mod hm hb,h.lf,h.gn⟩
instance {w w':World}{b:Nat}{c:fQ}:Md (qD w b c) w w' (qD w' b c) (fun S=>b∉S):=⟨fun h hm hs=>qD.mod h hm hs⟩
def nZ (w:World)(b:Nat)(c:fQ)(w':World):Prop:=∃(lf gn:Nat) (ma ml:aZ),lf≤c.lf∧qD w' b {c with lf:=lf,gn:=gn,ma:=ma,ml:=ml}∧Mod [b] w w'
section
variable {w : World} {b : Nat} {c : fQ}
theorem Uq (h:qD w b c):Calls Tryz.prog 140 #[.pointer (some ⟨b,4,none⟩),.pointer (some ⟨b,8,none⟩)] w fun e w'=>∃x,e= .returned (.bool x)∧nZ w b c w':=by
 by_cases hz:c.lf=0
 ·have HL:=qd (MZ (o:=4) h.blk (by show some (Value.int .i64 (c.lf:Int))=_;rw[hz];rfl));have HF:=qd (show nZ w b c w from⟨c.lf,c.gn,c.ma,c.ml,Nat.le_refl _,h,Mod.refl _ _⟩);clear h hz;go_in;go_wp2_with fail;refine HL.out.mono ?_;rintro y w1 ⟨rfl,rfl⟩;go_wp2;go_ret;exact⟨false,rfl,HF.out⟩
 ·have HL:=qd (Un (o:=4) (n:=c.lf) ⟨by omega,h.lf⟩ h.blk rfl);have HG:=qd h.gn;have HF:=qd h.lf;clear h hz;go_in;go_wp2_with fail;refine HL.out.mono ?_;rintro y w1 ⟨rfl,h1,m1⟩;have HU:=qd (qO b _ _ _ 8 _ _ 0 1 (by omega) w1 (M0 (c:={c with lf:=c.lf-1}) h1));have HM:=qd m1;clear h1 m1 HL;go_wp2_with fail;refine HU.out.mono ?_;rintro y w2 ⟨rfl,h2,m2⟩;have h3:=YQ (c:={c with lf:=c.lf-1}) h2;have HD:=qd (Oa (o:=6) (n:=c.gn) (k:=1) ⟨HG.out,by omega⟩ h3 rfl);replace HM:=qd (HM.out.then m2);simp only[Int.natCast_one]at HD;clear h2 m2 h3 HU;go_wp2_with fail;refine HD.out.mono ?_;rintro y w3 ⟨d,d1,d2,rfl,d3,d4⟩;have HE:=qd (show nZ w b c w3 from⟨c.lf-1,c.gn+d,_,_,Nat.sub_le _ _,⟨d3,Nat.le_trans (Nat.sub_le _ _) HF.out,d2⟩,HM.out.then d4⟩);clear d1 d2 d3 d4 HD;go_wp2;go_ret;exact⟨true,rfl,HE.out⟩
theorem nZ.next {w1 w2:World}(h:nZ w b c w1)(hn:∀c',qD w1 b c'→nZ w1 b c' w2):nZ w b c w2:=by
 obtain⟨lf,gn,ma,ml,h1,h2,h3⟩:=h;obtain⟨lf',gn',ma',ml',k1,k2,k3⟩:=hn _ h2;exact⟨lf',gn',ma',ml',Nat.le_trans k1 h1,k2,h3.then k3⟩
theorem Ri (h:qD w b c)(n:Nat)(hn:n≤1000):Calls Tryz.prog 98 #[.pointer (some ⟨b,4,none⟩),.pointer (some ⟨b,8,none⟩),nI n] w fun e w'=>∃d:Nat,e= .returned (nI d)∧nZ w b c w':=by
 have HW:=qd (show nZ w b c w from⟨c.lf,c.gn,c.ma,c.ml,Nat.le_refl _,h,Mod.refl _ _⟩);clear h;go_in;go_wp2;go_loopw [7] (fun v7 wr=>∃i:Nat,i≤n∧v7=nI i∧Hid (nZ w b c wr)) (fun v7 _=>n-(intOf v7).toNat)
 case atStart=>exact⟨0,by omega,rfl,HW⟩
 case round=>
  clear HW;obtain⟨i,hi,rfl,HW⟩:=hrel;by_cases hlt:i<n
  ·have hlt':(i:Int)<(n:Int):=by omega
   obtain⟨lf,gn,ma,ml,q1,q2,q3⟩:=HW.out;have HS:=qd (Uq q2);have HQ:=qd (And.intro q1 q3)
   have hw1:IntKind.i64.wrap ((i:Int)+1)=((i+1:Nat):Int):=by rw[IntKind.wrap_i64];omega
   clear q1 q2 q3 HW;go_wp2_with fail;refine HS.out.mono ?_;rintro y w2 ⟨x,rfl,lf',gn',ma',ml',k1,k2,k3⟩;have HW2:=qd (show nZ w b c w2 from⟨lf',gn',ma',ml',Nat.le_trans k1 HQ.out.1,k2,HQ.out.2.then k3⟩);clear k1 k2 k3 HS HQ
   cases x with
   |true=>
    go_wp2;go_roundw
    case rel=>exact⟨i+1,by omega,rfl,HW2⟩
    case measure=>simp[intOf];omega
   |false=>
    go_wp2;go_ret
    first|exact⟨i,rfl,HW2.out⟩|exact⟨⟨i,rfl⟩,HW2.out⟩
  ·have hlt':¬(i:Int)<(n:Int):=by omega
   go_wp2;go_ret
   first|exact⟨i,rfl,HW.out⟩|exact⟨⟨i,rfl⟩,HW.out⟩
end
theorem Ur (k m i:Int)(hk:1≤k∧k≤64)(w:World):Calls Tryz.prog 99 #[jS k m i] w fun e w'=>e= .returned (.int .i64 (4*k))∧Below w.heap.size w w':=by
 have hB:=(Below.refl w.heap.size w).alloc (Nat.le_refl _) (.cells #[.int .i64 k,.int .i64 m,.int .i64 i] 32);have hC:=aj.new w 32 #[.int .i64 k,.int .i64 m,.int .i64 i];obtain⟨W,hW⟩:∃W,W=w.alloc (.cells #[.int .i64 k,.int .i64 m,.int .i64 i] 32):=⟨_,rfl⟩;rw[←hW]at hB hC;obtain⟨c0,c1,c2⟩:=hC.c3;have HW:=qd hW;have HB:=qd hB;have HP:=qd (zO k m i 4 hk (by omega) W);unfold jS at HP⊢;clear hW hB hC hk;go_in;go_upto_region 1 with fail;rw[←HW.out];go_wp2_with fail;refine(HP.out).mono ?_;rintro y w1 ⟨rfl,hb⟩;have HB2:=qd (HB.out.trans (hb.mono HB.out.size));clear hb;go_wp2;go_ret;exact⟨gK (by omega),HB2.out⟩
theorem Gh {w:World}{mb:Nat}{t:TypeId}{pre post:List Value}{mo:Nat}{a l:aZ}{m:Int}(h:Met w mb t pre post mo a l m):Calls Tryz.prog 48 #[.pointer (some ⟨mb,mo,none⟩)] w fun e w'=>e= .returned (mI l)∧Below w.heap.size w w':=by
 have m3:w.cell? ⟨mb,mo+3,none⟩=some (.int .i64 l.p):=h.at_ 3 (by omega);have m4:w.cell? ⟨mb,mo+3+1,none⟩=some (.int .i64 l.v):=h.at_ 4 (by omega);have m5:w.cell? ⟨mb,mo+3+2,none⟩=some (.int .i64 l.u):=h.at_ 5 (by omega);have hl:=h.lt;have hB:=(Below.refl w.heap.size w).alloc (Nat.le_refl _) (.cells #[.int .i64 0,.int .i64 0,.int .i64 0] 81);have hX:=aj.new w 81 #[.int .i64 0,.int .i64 0,.int .i64 0];obtain⟨W,hW⟩:∃W,W=w.alloc (.cells #[.int .i64 0,.int .i64 0,.int .i64 0] 81):=⟨_,rfl⟩;rw[←hW]at hB hX;replace m3:=aD hB m3;replace m4:=aD hB m4;replace m5:=aD hB m5;obtain⟨x0,x1,x2⟩:=hX.c3;obtain⟨f0,f1,f2⟩:=hX.f3;have HW:=qd hW;have HB:=qd hB;unfold mI;clear h hW hB hX;go_in;go_upto_region 1 with fail;rw[←HW.out];go_wp2;refine bodyPost_ret (v:= .agg #[.int .i64 l.p,.int .i64 l.v,.int .i64 l.u]) (by simp[results,Tryz.results48,go_sem,x0,x1,x2]) rfl ?_;exact⟨rfl,(((HB.out).setCell (p:=⟨w.heap.size,0,none⟩) (Nat.le_refl _) _).setCell (p:=⟨w.heap.size,1,none⟩) (Nat.le_refl _) _).setCell (p:=⟨w.heap.size,2,none⟩) (Nat.le_refl _) _⟩
section
variable {w : World} {b : Nat} {c : fQ}
theorem wL (h:qD w b c)(d:aZ):Calls Tryz.prog 46 #[pQ b,mI d] w fun y w'=>y= .returned undef∧qD w' b {c with last:=d,all:=iU c.all d}∧Mod [b] w w':=by
 obtain⟨s,hs⟩:∃s,s=iU c.all d:=⟨_,rfl⟩;have iW:=qd (fun V=>zx c.all d V);rw[←hs]at iW⊢;clear hs;have Us:=qd trivial;have hB:=(Below.refl w.heap.size w).alloc (Nat.le_refl _) (.cells #[.int .i64 d.p,.int .i64 d.v,.int .i64 d.u] 81);have hX:=aj.new w 81 #[.int .i64 d.p,.int .i64 d.v,.int .i64 d.u];obtain⟨W,hW⟩:∃W,W=w.alloc (.cells #[.int .i64 d.p,.int .i64 d.v,.int .i64 d.u] 81):=⟨_,rfl⟩;rw[←hW]at hB hX
 have hne:b≠w.heap.size:=fun e=>by have:=h.lt;omega
 have hC:=h.mod (Mod.of_below hB []) (by simp);have HL:=qd (And.intro h.lf h.gn);have hbk:=hC.blk;unfold fQ.cells at hbk;have x0:=hX.cell 0;have x1:=hX.cell 1;have x2:=hX.cell 2;have c17:=hbk.cell 17;have c18:=hbk.cell 18;have c19:=hbk.cell 19;simp only[gl]at x0 x1 x2 c17 c18 c19;have f17:=hbk.frozen 17;have f18:=hbk.frozen 18;have f19:=hbk.frozen 19;have HW:=qd hW;have HB:=qd hB;have HX:=qd hX;have HK:=qd hbk;unfold mI;clear h hW hB hX hC hbk;go_in;go_upto_region 1 with fail;rw[←HW.out];go_upto_region 2 with fail;have hnew:=((HK.out.ak 17 (.int .i64 d.p)).ak 18 (.int .i64 d.v)).ak 19 (.int .i64 d.u);have hm:=(((Mod.refl [b] W).sl 17 (.int .i64 d.p)).sl 18 (.int .i64 d.v)).sl 19 (.int .i64 d.u);simp only[pt]at hnew;refine X4 hnew hm ?_;clear hnew hm HK x0 x1 x2 c17 c18 c19 f17 f18 f19;rintro W1 ⟨hK,hm⟩;have HM:=qd ((Mod.of_below HB.out [b]).then hm);replace HX:=qd (HX.out.mod hm (by simp;omega));have HK:=qd hK;clear hK hm;have x0:=HX.out.cell 0;have x1:=HX.out.cell 1;have x2:=HX.out.cell 2;have c20:=HK.out.cell 20;have c21:=HK.out.cell 21;have Pq:=HK.out.cell 22;simp only[gl]at x0 x1 x2 c20 c21 Pq;clear Us;have HP:=qd (fun V=>(show Calls Tryz.prog 88 #[.agg #[.int .i64 c.all.p,.int .i64 c.all.v,.int .i64 c.all.u],.agg #[.int .i64 d.p,.int .i64 d.v,.int .i64 d.u]] V fun e w'=>e= .returned (.agg #[.int .i64 s.p,.int .i64 s.v,.int .i64 s.u])∧Below V.heap.size V w' from iW.out V));clear iW
 refine rT (fun(w':World)=>w'.cell? ⟨w.heap.size,0,none⟩=some (.int .i64 d.p)∧w'.cell? ⟨w.heap.size,1,none⟩=some (.int .i64 d.v)∧w'.cell? ⟨w.heap.size,2,none⟩=some (.int .i64 d.u)∧w'.cell? ⟨b,20,none⟩=some (.int .i64 c.all.p)∧w'.cell? ⟨b,21,none⟩=some (.int .i64 c.all.v)∧w'.cell? ⟨b,22,none⟩=some (.int .i64 c.all.u)) [9] ?_;have hHeld:=(⟨x0,x1,x2,c20,c21,Pq⟩:_∧_∧_∧_∧_∧_);refine vW 0 rfl ?_;refine vW 1 rfl ?_;refine vW 2 rfl ?_;refine vW 3 rfl ?_;refine vT 4 rfl ?_;refine vT 5 rfl ?_;refine nT 6 rfl fun K hK=> ?_;go_simp;refine(HP.out _).mono ?_;rintro y W2 ⟨rfl,hb⟩;replace hb:Below W1.heap.size W1 W2:=bR hb (Below.refl _ _).drew;replace HK:=qB hb HK;replace HX:=qB hb HX;replace HM:=qd (HM.out.then (Mod.of_below hb [b]));clear hb HP x0 x1 x2 c20 c21 Pq;have x0:=HX.out.cell 0;have x1:=HX.out.cell 1;have x2:=HX.out.cell 2;have c20:=HK.out.cell 20;have c21:=HK.out.cell 21;have Pq:=HK.out.cell 22;simp only[gl]at x0 x1 x2 c20 c21 Pq;go_wp2_with fail;have hHeld:=(⟨x0,x1,x2,c20,c21,Pq⟩:_∧_∧_∧_∧_∧_);refine kO hK ?_;clear hK K;refine vW 7 rfl ?_;refine vW 8 rfl ?_;refine nT 9 rfl fun K hK=> ?_;have f20:=HK.out.frozen 20;have f21:=HK.out.frozen 21;have f22:=HK.out.frozen 22;have hnew:=((HK.out.ak 20 (.int .i64 s.p)).ak 21 (.int .i64 s.v)).ak 22 (.int .i64 s.u);have hm:=(((Mod.refl [b] W2).sl 20 (.int .i64 s.p)).sl 21 (.int .i64 s.v)).sl 22 (.int .i64 s.u);simp only[pt]at hnew;have HN:=qd hnew;have HQ:=qd (HM.out.then hm);clear hnew hm;go_simp;refine kO hK ?_;clear hK K
 refine aQ (by kernel_rfl) ?_ _;go_wp2;go_end0;exact⟨rfl,⟨HN.out,HL.out.1,HL.out.2⟩,HQ.out⟩
def Wrote (w:World)(b:Nat)(c:fQ)(w':World):Prop:=∃(lf gn:Nat) (ma ml last all:aZ),lf≤c.lf∧qD w' b {c with lf:=lf,gn:=gn,ma:=ma,ml:=ml,last:=last,all:=all}∧Mod [b] w w'
theorem M4 (h:qD w b c)(hk:1≤c.k∧c.k≤64)(d:aZ):Calls Tryz.prog 57 #[pQ b,mI d] w fun y w'=>y= .returned undef∧Wrote w b c w':=by
 have hB:=(Below.refl w.heap.size w).alloc (Nat.le_refl _) (.cells #[.int .i64 d.p,.int .i64 d.v,.int .i64 d.u] 81);have hX:=aj.new w 81 #[.int .i64 d.p,.int .i64 d.v,.int .i64 d.u];obtain⟨W,hW⟩:∃W,W=w.alloc (.cells #[.int .i64 d.p,.int .i64 d.v,.int .i64 d.u] 81):=⟨_,rfl⟩;rw[←hW]at hB hX
 have hne:b≠w.heap.size:=fun e=>by have:=h.lt;omega
 have hC:=h.mod (Mod.of_below hB []) (by simp);have HC:=qd hC;have iZ:=qd (Dj b _ _ _ 8 _ _ 0 W (M0 hC.blk));have HW:=qd hW;have HM:=qd (Mod.of_below hB [b]);have HX:=qd hX;obtain⟨bx,hbx⟩:∃bx,bx=w.heap.size:=⟨_,rfl⟩;rw[←hbx]at HX hne;have eH:=qd hne;unfold mI;clear h hW hB hX hC hne;go_in;go_upto_region 1 with fail;rw[←HW.out];rw[←hbx];clear hbx;go_wp2_with fail;refine iZ.out.mono ?_;rintro y W1 ⟨rfl,hm1,hm⟩;have h1:=YQ hm1;replace HX:=qd (HX.out.mod hm (fun hh=>eH.out (List.mem_singleton.1 hh).symm));replace HM:=qd (HM.out.then hm);have uM:=qd (show qD W1 b {c with ml:=⟨0,0,0⟩} from⟨h1,HC.out.lf,HC.out.gn⟩);clear hm1 hm iZ HC;have hbk:=h1;unfold fQ.cells at hbk;obtain⟨c0,c1,c2⟩:=hbk.c3;clear h1 hbk;have I7:=qd (show∀V,Calls Tryz.prog 99 #[.agg #[.int .i64 c.k,.int .i64 c.m,.int .i64 c.i]] V _ from fun V=>Ur c.k c.m c.i hk V);go_upto_region 2 with fail;refine rT (fun(w':World)=>w'.cell? ⟨b,0,none⟩=some (.int .i64 c.k)∧w'.cell? ⟨b,1,none⟩=some (.int .i64 c.m)∧w'.cell? ⟨b,2,none⟩=some (.int .i64 c.i)) [11] ?_;have hHeld:=(⟨c0,c1,c2⟩:_∧_∧_);refine vW 0 rfl ?_;refine vW 1 rfl ?_;refine vW 2 rfl ?_;refine vW 3 rfl ?_;refine vW 4 rfl ?_;refine vW 5 rfl ?_;refine vW 6 rfl ?_;refine vW 7 rfl ?_;refine vW 8 rfl ?_;refine vT 9 rfl ?_;refine nT 10 rfl fun K hK=> ?_;go_simp;refine(I7.out _).mono ?_;rintro y W2 ⟨rfl,hb⟩;replace hb:Below W1.heap.size W1 W2:=bR hb (Below.refl _ _).drew;replace uM:=qB hb uM;replace HX:=qB hb HX
 replace HM:=qd (HM.out.then (Mod.of_below hb [b]));replace c0:=aD hb c0;replace c1:=aD hb c1;replace c2:=aD hb c2;clear hb I7;go_wp2_with fail;have hHeld:=(⟨c0,c1,c2⟩:_∧_∧_);refine kO hK ?_;clear hK K;refine nT 11 rfl fun K hK=> ?_;go_simp;obtain⟨n4,hn4⟩:∃n4:Nat,4*c.k=(n4:Int):=⟨(4*c.k).toNat,by omega⟩;rw[hn4];have Aw:=qd (Ri uM.out n4 (by omega));refine Aw.out.mono ?_;rintro y W3 ⟨dn,rfl,lf,gn,ma,ml,g1,g2,g3⟩;replace HX:=qd (HX.out.mod g3 (fun hh=>eH.out (List.mem_singleton.1 hh).symm));replace HM:=qd (HM.out.then g3);have nD:=qd g2;have qZ:=qd g1;clear g1 g2 g3 Aw hn4 uM c0 c1 c2;go_wp2_with fail;refine kO hK ?_;clear hK K;refine aQ (by kernel_rfl) ?_ _;go_upto_region 3 with fail;obtain⟨C3,AA⟩:∃C3:fQ,C3={c with lf:=lf,gn:=gn,ma:=ma,ml:=ml}:=⟨_,rfl⟩;replace nD:=qd (show qD W3 b C3 from AA▸nD.out);have fD:=qd (show Calls Tryz.prog 48 #[.pointer (some ⟨b,8,none⟩)] (World.drew W3) _ from Gh (M0 (nD.out.mod (Mod.of_below (Below.refl W3.heap.size W3).drew []) (by simp)).blk));have iW:=qd (fun V=>zx d C3.ml V);obtain⟨s,hs⟩:∃s,s=iU d C3.ml:=⟨_,rfl⟩;rw[←hs]at iW;unfold mI at fD iW;have HQ:=qd AA;clear hs AA;obtain⟨x0,x1,x2⟩:=HX.out.c3;refine rT (fun(w':World)=>w'.cell? ⟨bx,0,none⟩=some (.int .i64 d.p)∧w'.cell? ⟨bx,1,none⟩=some (.int .i64 d.v)∧w'.cell? ⟨bx,2,none⟩=some (.int .i64 d.u)) [6,7] ?_;have hHeld:=(⟨x0,x1,x2⟩:_∧_∧_);refine vW 0 rfl ?_;refine vT 1 rfl ?_;refine vW 2 rfl ?_;refine vW 3 rfl ?_;refine vW 4 rfl ?_;refine nT 5 rfl fun K hK=> ?_;go_simp
 refine(fD.out).mono ?_;rintro y W4 ⟨rfl,hb⟩;replace hb:Below W3.heap.size W3 W4:=bR hb (Below.refl _ _).drew;replace nD:=qB hb nD;replace HM:=qd (HM.out.then (Mod.of_below hb [b]));replace x0:=aD hb x0;replace x1:=aD hb x1;replace x2:=aD hb x2;clear hb fD;go_wp2_with fail;have hHeld:=(⟨x0,x1,x2⟩:_∧_∧_);refine kO hK ?_;clear hK K;refine nT 6 rfl fun K hK=> ?_;go_simp;refine(iW.out _).mono ?_;rintro y W5 ⟨rfl,hb⟩;replace nD:=qB hb nD;replace HM:=qd (HM.out.then (Mod.of_below hb [b]));clear hb iW x0 x1 x2;go_wp2_with fail;refine kO hK ?_;clear hK K;refine nT 7 rfl fun K hK=> ?_;go_simp;have JF:=qd (show Calls Tryz.prog 46 #[pQ b,.agg #[.int .i64 s.p,.int .i64 s.v,.int .i64 s.u]] W5 _ from wL nD.out s);refine(JF.out).mono ?_;rintro y W6 ⟨rfl,h6,m6⟩;have HE:=qd (show Wrote w b c W6 from⟨lf,gn,ma,ml,s,iU C3.all s,qZ.out,by have h7:=h6;rw[HQ.out]at h7⊢;exact h7,HM.out.then m6⟩);clear h6 m6 JF;go_wp2_with fail;refine kO hK ?_;clear hK K;refine aQ (by kernel_rfl) ?_ _;go_wp2;go_end0;exact⟨rfl,HE.out⟩
end
end
section
def jo (W0:World)(E:Nat→Addr)(H:Nat→Nat)(K M mb:Nat)(G:List Nat)(w:World)(a:Pool)(ids:List Nat)(c:aZ):Prop:=
 ∃(C:iq) (F:List Nat) (len:Nat) (b:Int) (x:bI),C.mb=mb∧C.K=K∧C.M=M∧G=C.foot F∧aA W0 E H C w (C.foot F) w F ⟨a,ids,len,b,x⟩∧jE a ids []∧len=a.ents.length∧len≤M∧x.last=c
def M5 (c:aZ):Prop:=0≤c.p∧c.p≤192∧c.u=0
section
variable {W0 : World} {E : Nat → Addr} {H : Nat → Nat} {K M mb : Nat} {G : List Nat} {w w' : World} {a : Pool} {ids : List Nat} {c : aZ}
theorem jo.at_ (h:jo W0 E H K M mb G w a ids c):gD W0 E H K M mb G w a ids:=by
 obtain⟨C,F,len,b,x,h1,h2,h3,h4,h5,h6,h7,h8,_⟩:=h;exact⟨C,F,len,b,x,h1,h2,h3,h4,h5,h6,h7,h8⟩
theorem gD.c_ (h:gD W0 E H K M mb G w a ids):∃c,jo W0 E H K M mb G w a ids c:=by
 obtain⟨C,F,len,b,x,h1,h2,h3,h4,h5,h6,h7,h8⟩:=h;exact⟨_,C,F,len,b,x,h1,h2,h3,h4,h5,h6,h7,h8,rfl⟩
theorem rG (cb:Nat)(w:World):Calls Tryz.prog 47 #[pQ cb] w fun y w'=>y= .returned (.pointer (some ⟨cb,3,none⟩))∧w=w':=by
 go_in;go_wp2;go_ret;exact⟨rfl,rfl⟩
theorem zi (h:jo W0 E H K M mb G w a ids c):Calls Tryz.prog 48 #[.pointer (some ⟨mb,3,none⟩)] w fun y w'=>y= .returned (mI c)∧Below w.heap.size w w':=by
 obtain⟨C,F,len,b,x,h1,h2,h3,h4,h5,h6,h7,h8,h9⟩:=h;rw[←h1,←h9];exact Gh (show Met w C.mb _ _ _ 3 x.all x.last C.m from h5.aC.met)
theorem jo.mod {S:List Nat}(h:jo W0 E H K M mb G w a ids c)(hm:Mod S w w')(hS:∀q∈S,q∉G∧W0.heap.size≤q):jo W0 E H K M mb G w' a ids c:=by
 obtain⟨C,F,len,b,x,h1,h2,h3,rfl,hC,hi,hl,hm',hx⟩:=h
 have hd:∀q∈S,q≠C.mb∧q∉C.s.blocks∧q∉F∧C.v.ownBlock≠some q:=fun q hq=>by
  have:=(hS q hq).1;rw[aX]at this;simp only[not_or]at this;exact this
 refine⟨C,F,len,b,x,h1,h2,h3,rfl,⟨bA.start (hC.aC.aC.mod hm (fun q hq dH=>(hd q dH).2.1 hq)) (hC.hp.yj hC.aC.pool hm (fun q hq dH=>(hd q dH).2.2.1 hq)) (hC.aC.met.mod hm (fun hq=>(hd _ hq).1 rfl)) (hC.aC.env.mod hm (fun q hq=>(hS q hq).2)) hC.aC.apart hC.aC.qx,jl hC.row hm (fun k hk Gb=>(hd k Gb).2.2.2 hk),hC.ze,hC.pos,hC.kk,hC.mm, ?_,fun q hq=> .inl hq,Mod.refl _ _⟩,hi,hl,hm',hx⟩;have:=hC.aC.env.size;have:=hm.size;omega
theorem jo.below (h:jo W0 E H K M mb G w a ids c)(hb:Below w.heap.size w w'):jo W0 E H K M mb G w' a ids c:=h.mod (Mod.of_below hb []) (by simp)
theorem Ut (h:gD W0 E H K M mb G w a ids)(key hash:Nat)(h64:hash<18446744073709551616):Calls Tryz.prog 107 #[aY mb,nU hash,nU key] w fun y w'=>
  ∃(o:Option av) (hi:Nat) (c:aZ) (G':List Nat),y= .returned (.tuple #[aO (o.getD ⟨0,0,0⟩),.bool o.isSome,nU hi])∧(hash≤hi∧hi<18446744073709551616∧hi∈jF a∧(∀x∈jF a,hash≤x→hi≤x)∧fK ⟨key,0,hash⟩ (upto a.ents hi) o)∧M5 c∧jo W0 E H K M mb G' w' a ids c∧(∀q∈G',q∈G∨w.heap.size≤q)∧Mod G w w':=by
 obtain⟨f1,f2,f3,f4,f5,f6,_⟩:=h.facts;obtain⟨C,F,len,b,x,h1,h2,h3,rfl,hC,hi,hl,hm⟩:=h;rw[←h1];refine(Rh hC hi key hash h64).mono ?_;rintro y w' ⟨v,rfl,id,N,o,x',hN,hid,hIs,rfl,hc,hco⟩;replace hN:a.Ns[id]?=some N:=hN;replace hid:id=a.l.getD (dM hash a.d) 0:=hid;obtain⟨N',hN',htop⟩:=f1.dir.at_ h64 f2;rw[←hid,hN]at hN';cases hN';have hok:=f6 id N hN;obtain⟨r1,r2⟩:=uo.1 htop;have hlow:=zu (d:=N.au) (p:=N.pfx) (by have:=hok.deep;omega) hok.pfx;have hp:=pos2 (64-N.au);obtain⟨k1,k2,k3,k4⟩:=hco (Int.le_refl _) (Int.le_refl _)
 have adl:kE N.pfx N.au<18446744073709551616:=by unfold mH at hlow;unfold kE;omega
 refine⟨o,kE N.pfx N.au,x'.last,_,rfl,⟨r2,adl,List.mem_map.2 ⟨N,List.mem_of_getElem? hN,rfl⟩,fun x hx hle=> ?_,N9 hIs (fun e he hle=> ?_) (fun e he=> ?_)⟩,⟨k1,by simp only at k2;omega,by simp only at k4;omega⟩,⟨C,F,len,b,x',rfl,h2,h3,rfl,hc.again,hi,hl,hm,rfl⟩,hc.sub,hc.mod⟩
 ·obtain⟨N2,OB,rfl⟩:=List.mem_map.1 hx;obtain⟨j,hj⟩:=List.mem_iff_getElem?.1 OB;by_cases hlt:kE N2.pfx N2.au<kE N.pfx N.au
  ·have e1:=f1.dir.MF (by omega) f2 hN (uo.2 ⟨Nat.le_trans r1 hle,Nat.le_of_lt hlt⟩);have e2:=f1.dir.MF (by omega) f2 hj (uo.2 ⟨by unfold mH kE;have:=pos2 (64-N2.au);omega,Nat.le_refl _⟩);rw[e1]at e2;subst e2;rw[hN]at hj;cases hj;exact Nat.le_refl _
  ·omega
 ·obtain⟨g1,g2⟩:=nY.1 he;obtain⟨j,M',k1,k2⟩:=lg.1 g1;obtain⟨k3,k4⟩:=(f6 j M' k1).hash e k2;have e1:=f1.dir.MF k3.h64 f2 k1 k4;have e2:=f1.dir.MF k3.h64 f2 hN (uo.2 ⟨by have:=JE hle;omega,g2⟩);rw[e1]at e2;subst e2;rw[hN]at k1;cases k1;exact k2
 ·obtain⟨k3,k4⟩:=hok.hash e he;exact nY.2 ⟨lg.2 ⟨id,N,hN,he⟩,(uo.1 k4).2⟩
def Cn (H:Nat→Nat)(K M:Nat)(a:Pool)(ids:List Nat)(e:av)(a':Pool)(aJ:List Nat):Prop:=a'.ents.Perm (Hw M a.ents e)∧(look a.ents e.key=none→a.ents.length<M→Uk H K a ids [] [e] a' aJ)
theorem ZM (h:gD W0 E H K M mb G w a ids)(e:av)(he:jW H e):Calls Tryz.prog 59 #[aY mb,nU e.key,nU e.val,nU e.hash] w fun y w'=>
  y= .returned (iQ E (sM M a.ents e.key))∧∃a' aJ,jC W0 E H K M mb G w w' a' aJ∧Cn H K M a ids e a' aJ:=by
 obtain⟨f1,f2,f3,f4,f5,f6,_,_,_,f10,_⟩:=h.facts;refine(abf h e he).mono ?_;rintro y w' (⟨h1,h2,rfl,hto⟩|⟨a',aJ,h1,h2,rfl,hw,hto⟩|⟨a',aJ,e0,h1,rfl,hw,hto⟩)
 ·have hf:rF M a.ents e.key=true:=by simp[rF,h1,h2]
  unfold Cn sM Hw;rw[hf];exact⟨rfl,a,ids,hto,.refl _,fun _ hl=>by omega⟩
 ·have hf:rF M a.ents e.key=false:=by simp[rF,h1];omega
  unfold Cn sM Hw;rw[hf,Ck h1];have hw0:=hw;obtain⟨_,_,_,_,_,_,⟨r,hr1,hr2⟩,_⟩:=hw;have h3:(e::r).Perm (e::a.ents):= .cons e hr1.symm;exact⟨rfl,a',aJ,hto,hr2.trans (h3.trans (List.perm_append_singleton e a.ents).symm),fun _ _=>hw0⟩
 ·have hf:rF M a.ents e.key=false:=by simp[rF,h1]
  unfold Cn sM Hw;rw[hf];obtain⟨_,_,_,_,_,_,⟨r,hr1,hr2⟩,_⟩:=hw;obtain⟨m1,m2⟩:=mM h1;obtain⟨j,N,k1,k2⟩:=lg.1 m1;obtain⟨k3,_⟩:=(f6 j N k1).hash e0 k2
  have hee:({e0 with val:=e.val}:av)=e:=by
   have h4:e0.hash=e.hash:=by rw[k3.hash,m2,he.hash]
   obtain⟨a1,a2,a3⟩:=e;simp only at m2 h4;simp[m2,h4]
  rw[hee]at hr2;have h3:=Cm f10 hr1;rw[m2]at h3;exact⟨rfl,a',aJ,hto,hr2.trans ((List.Perm.cons e h3.symm).trans (List.perm_append_singleton e _).symm),fun hl=>by rw[h1]at hl;cases hl⟩
end
end
section
structure gq where
 hash:Nat
 key:Nat
 done:Bool
def behind (hash key:Nat):gq:=if key<18446744073709551615 then⟨hash,key+1,false⟩else if hash<18446744073709551615 then⟨hash+1,0,false⟩else⟨0,0,true⟩
def gq.ok (c:gq):Prop:=c.hash<18446744073709551616∧c.key<18446744073709551616
def gq.cells (c:gq):Array Value:= #[nU c.key,.int .u64 0,nU c.hash,.bool c.done]
def eX (w:World)(b:Nat)(c:gq):Prop:=aj w b 192 c.cells
theorem eX.blk {w:World}{b:Nat}{c:gq}(h:eX w b c):aj w b 192 #[nU c.key,.int .u64 0,nU c.hash,.bool c.done]:=h
theorem eX.lt {w:World}{b:Nat}{c:gq}(h:eX w b c):b<w.heap.size:=aj.lt h
theorem eX.mod {S:List Nat}{w w':World}{b:Nat}{c:gq}(h:eX w b c)(hm:Mod S w w')(hb:b∉S):eX w' b c:=aj.mod h hm hb
instance {w w':World}{b:Nat}{c:gq}:Md (eX w b c) w w' (eX w' b c) (fun S=>b∉S):=⟨fun h hm hs=>eX.mod h hm hs⟩
theorem Rj (p:Addr)(w:World):
  CallsD Tryz.prog 95 #[.pointer (some p)] .returning w fun e u' w'=>e= .returned (.tuple #[])∧u'= .returning∧w'=w:=by
 refine callsD_of_wpS Tryz.func95 rfl fun c₀ cs hu=> ?_;apply wpS_seq;apply wpS_region;simp[wpOpsS,go_sem,recoverD,hu,Tryz.ntmps95,Exit.thenS];refine wpS_of_wp ?_;go_wp2;cases c₀
 simp_all[bodyPostS,results,Tryz.results95]
theorem ZN (d:Nat)(fn:Fn)(a b:Array Value)(w:World):(Op.equalIn (d+1) 1 (.func fn a b) .nilFunc).run Tryz.prog w= .ok false w:=by simp[Op.equalIn,run_underlying Tryz.underlying1]
theorem acr (fn:Fn)(a b:Array Value)(w:World):(Op.equal 1 (.func fn a b) .nilFunc).run Tryz.prog w= .ok false w:=ZN 9999 fn a b w
theorem zT {S:List Nat}{K:World→Prop}(G:FuncId)(cap:Array Value)(w:World)(hG:∀W:World,(callFunc G cap).run Tryz.prog W= .ok (.enter G cap) W)(hS:w.heap.size∉S)
  (hc:Calls Tryz.prog G cap (w.alloc (.cells #[.nilIface] 28)) fun e w1=>e= .returned (.tuple #[])∧Mod S (w.alloc (.cells #[.nilIface] 28)) w1∧K w1):
  Calls Tryz.prog 54 #[.func (.func G) #[] cap] w fun e w1=>e= .returned .nilIface∧Mod S (w.alloc (.cells #[.nilIface] 28)) w1∧K w1:=by
 have nS:∀(fn:Fn) (first cap:Array Value) (w:World),(Instr.makeFunc fn first cap).run Tryz.prog w= .ok (.func fn first cap) w:=fun _ _ _ _=>rfl
 have hq:∀W:World,(binOp .eql 1 (.func (.func G) #[] cap) .nilFunc).run Tryz.prog W= .ok (.bool false) W:=fun W=>by
  simp only[binOp];simp[acr]
 have HC:=qd hc;clear hc;go_enter_defers Tryz.func54,Tryz.ntmps54;go_wp2_with fail;refine HC.out.mono ?_;rintro y w1 ⟨rfl,hm,hk⟩;have hB:=(aj.new w 28 #[.nilIface]).mod hm hS;have hid:=hB.zC (i:=0) (u:= .nilIface) rfl;have c0:=hB.cell 0;have f0:=hB.frozen 0;simp only[List.getElem?_toArray,List.getElem?_cons_zero]at c0;have HI:=qd hid;have HM:=qd hm;have HK:=qd hk;clear hB hid hm hk HC;go_wp2;rw[HI.out];refine leaves_cons (f:=95) (args:= #[pQ w.heap.size]) (by simp) (by simp[go_sem]) ?_;refine(Rj ⟨w.heap.size,0,none⟩ _).mono ?_;rintro e u' w2 ⟨rfl,rfl,rfl⟩;simp[Leaves,settle,results,Tryz.results54,go_sem,c0];exact⟨HM.out,HK.out⟩
theorem DT (e:av)(hk:e.key<18446744073709551616)(hh:e.hash<18446744073709551616)(w:World):Calls Tryz.prog 153 #[aO e] w fun y w'=>y= .returned (.tuple #[.int .u64 ((behind e.hash e.key).hash:Int),.int .u64 ((behind e.hash e.key).key:Int),.bool (!(behind e.hash e.key).done)])∧Below w.heap.size w w':=by
 have hB:=(Below.refl w.heap.size w).alloc (Nat.le_refl _) (.cells #[nU e.key,nU e.val,nU e.hash] 159);have hE:=aj.new w 159 #[nU e.key,nU e.val,nU e.hash];obtain⟨W,hW⟩:∃W,W=w.alloc (.cells #[nU e.key,nU e.val,nU e.hash] 159):=⟨_,rfl⟩;rw[←hW]at hB hE;have c0:=hE.cell 0;have c2:=hE.cell 2;simp only[gl]at c0 c2;have HW:=qd hW;have HB:=qd hB;clear hW hB hE;unfold aO behind;by_cases h1:e.key<18446744073709551615
 ·rw[if_pos h1]
  have hlt:(e.key:Int)<18446744073709551615:=by omega
  have hw:IntKind.u64.wrap ((e.key:Int)+1)=((e.key+1:Nat):Int):=by rw[IntKind.wrap_u64];omega
  go_in;go_upto_region 1 with fail;rw[←HW.out];go_upto_region 2 with fail;go_region;go_wp2;refine bodyPost_ret (v:= .tuple #[nU e.hash,.int .u64 ((e.key+1:Nat):Int),.bool true]) (by simp[results,Tryz.results153,go_sem]) rfl ⟨rfl,HB.out.drew⟩
 ·have hlt:¬(e.key:Int)<18446744073709551615:=by omega
  rw[if_neg h1];by_cases h2:e.hash<18446744073709551615
  ·rw[if_pos h2]
   have hlt2:(e.hash:Int)<18446744073709551615:=by omega
   have hw:IntKind.u64.wrap ((e.hash:Int)+1)=((e.hash+1:Nat):Int):=by rw[IntKind.wrap_u64];omega
   go_in;go_upto_region 1 with fail;rw[←HW.out];go_wp2;refine bodyPost_ret (v:= .tuple #[.int .u64 ((e.hash+1:Nat):Int),.int .u64 0,.bool true]) (by simp[results,Tryz.results153,go_sem]) rfl ⟨rfl,HB.out⟩
  ·rw[if_neg h2]
   have hlt2:¬(e.hash:Int)<18446744073709551615:=by omega
   go_in;go_upto_region 1 with fail;rw[←HW.out];go_wp2;refine bodyPost_ret (v:= .tuple #[.int .u64 0,.int .u64 0,.bool false]) (by simp[results,Tryz.results153,go_sem]) rfl ⟨rfl,HB.out⟩
theorem Rk (w:World):Calls Tryz.prog 102 #[] w fun y w'=>y= .returned (pQ w.heap.size)∧eX w' w.heap.size ⟨0,0,false⟩∧Below w.heap.size w w':=by
 go_in;go_wp2;go_ret;exact⟨rfl,aj.new _ _ _,(Below.refl _ _).alloc (Nat.le_refl _) _⟩
section
variable {w : World} {b : Nat} {c : gq}
theorem Uu (h:eX w b c):Calls Tryz.prog 106 #[pQ b] w fun y w'=>y= .returned (.tuple #[nU c.hash,nU c.key])∧Below w.heap.size w w':=by
 have c0:=h.blk.cell 0;have c2:=h.blk.cell 2;simp only[gl]at c0 c2;clear h;go_in;go_upto_region 1 with fail;go_region;go_wp2;refine bodyPost_ret (v:= .tuple #[nU c.hash,nU c.key]) (by simp[results,Tryz.results106,go_sem]) rfl ⟨rfl,(Below.refl _ _).drew⟩
theorem DU (h:eX w b c):Calls Tryz.prog 63 #[pQ b] w fun y w'=>y= .returned (.bool c.done)∧w=w':=by
 have c3:=h.blk.cell 3;simp only[gl]at c3;clear h;go_in;go_wp2;go_ret;exact⟨rfl,rfl⟩
theorem Rl (h:eX w b c):Calls Tryz.prog 200 #[pQ b] w fun y w'=>y= .returned undef∧eX w' b ⟨0,0,true⟩∧Mod [b] w w':=by
 obtain⟨c0,c1,c2,c3⟩:=h.blk.c4;obtain⟨f0,f1,f2,f3⟩:=h.blk.f4;have hn:=(((h.blk.ak 0 (.int .u64 0)).ak 1 (.int .u64 0)).ak 2 (.int .u64 0)).ak 3 (.bool true);simp only[pt]at hn;have HN:=qd (And.intro hn (((((Mod.refl [b] w).sl 0 (.int .u64 0)).sl 1 (.int .u64 0)).sl 2 (.int .u64 0)).sl 3 (.bool true)));clear h hn;go_in;go_wp2;go_end0;exact⟨rfl,HN.out⟩
theorem Kv (h:eX w b c)(hd:c.done=false)(e:av):Calls Tryz.prog 151 #[pQ b,aO e] w fun y w'=>y= .returned (.bool (bB e ⟨c.key,0,c.hash⟩))∧Below w.heap.size w w':=by
 have hB:=(Below.refl w.heap.size w).alloc (Nat.le_refl _) (.cells #[nU e.key,nU e.val,nU e.hash] 159);have hE:=aj.new w 159 #[nU e.key,nU e.val,nU e.hash];obtain⟨W,hW⟩:∃W,W=w.alloc (.cells #[nU e.key,nU e.val,nU e.hash] 159):=⟨_,rfl⟩;rw[←hW]at hB hE;have hC:eX W b c:=h.mod (Mod.of_below hB []) (by simp);obtain⟨c0,c1,c2,c3⟩:=hC.blk.c4;rw[hd]at c3;obtain⟨e0,e1,e2⟩:=hE.c3;have HL:=qd (fun V=>jD e ⟨c.key,0,c.hash⟩ V);have HW:=qd hW;have HB:=qd hB;unfold aO at HL⊢;simp only[Int.natCast_zero]at HL;clear hW hB hE hC h;go_in;go_upto_region 1 with fail;rw[←HW.out];refine rT (fun(w':World)=>w'.cell? ⟨w.heap.size,0,none⟩=some (nU e.key)∧w'.cell? ⟨w.heap.size,1,none⟩=some (nU e.val)∧w'.cell? ⟨w.heap.size,2,none⟩=some (nU e.hash)∧w'.cell? ⟨b,0,none⟩=some (nU c.key)∧w'.cell? ⟨b,1,none⟩=some (.int .u64 0)∧w'.cell? ⟨b,2,none⟩=some (nU c.hash)∧w'.cell? ⟨b,3,none⟩=some (.bool false)) [10] ?_;have hHeld:=(⟨e0,e1,e2,c0,c1,c2,c3⟩:_∧_∧_∧_∧_∧_∧_);refine vW 0 rfl ?_;refine vW 1 rfl ?_;refine vW 2 rfl ?_;refine vT 3 rfl ?_;refine vW 4 rfl ?_;refine vT 5 rfl ?_;refine vW 6 rfl ?_;refine vW 7 rfl ?_;refine vW 8 rfl ?_;refine vT 9 rfl ?_;refine nT 10 rfl fun K hK=> ?_;go_simp;refine(HL.out _).mono ?_;rintro y W1 ⟨rfl,hb⟩;replace hb:Below W.heap.size W W1:=bR hb (Below.refl _ _).drew;replace HB:=qd (bR hb HB.out);clear hb;go_wp2_with fail;refine kO hK ?_;clear hK K;refine vL 11 rfl ?_;refine vL 12 rfl ?_;refine aQ (by kernel_rfl) ?_ _;go_wp2;go_ret;exact⟨rfl,HB.out⟩
theorem DV (h:eX w b c)(c':gq)(hd:c.done=false)(h0:c'.done=true→c'=⟨0,0,true⟩):Calls Tryz.prog 152 #[pQ b,nU c'.hash,nU c'.key,.bool (!c'.done)] w fun y w'=>y= .returned undef∧eX w' b c'∧Mod [b] w w':=by
 have HE:=qd (Rl h);obtain⟨c0,c1,c2,c3⟩:=h.blk.c4;obtain⟨f0,f1,f2,f3⟩:=h.blk.f4;have hn:=((h.blk.ak 0 (nU c'.key)).ak 1 (.int .u64 0)).ak 2 (nU c'.hash);simp only[pt]at hn;have HN:=qd (And.intro hn ((((Mod.refl [b] w).sl 0 (nU c'.key)).sl 1 (.int .u64 0)).sl 2 (nU c'.hash)));clear h hn
 cases hc:c'.done with
 |true=>
  have:=h0 hc;subst this;go_in;go_wp2_with fail;refine HE.out.mono ?_;rintro y w1 ⟨rfl,hC,hm⟩;go_wp2;refine bodyPost_ret (results_none rfl _ _ _) rfl ?_;exact⟨rfl,hC,hm⟩
 |false=>
  have HD:=qd hd;have HQ:=qd hc;clear hd hc h0;go_in;go_wp2;go_end0;refine⟨rfl, ?_,HN.out.2⟩;have h1:=HN.out.1;unfold eX gq.cells;rw[HQ.out];rw[HD.out]at h1;exact h1
theorem Gi {h k:Nat}(hd:(behind h k).done=true):behind h k=⟨0,0,true⟩:=by
 unfold behind at hd⊢;split
 ·rename_i h1;rw[if_pos h1]at hd;cases hd
 ·rename_i h1;rw[if_neg h1]at hd;split
  ·rename_i h2;rw[if_pos h2]at hd;cases hd
  ·rfl
theorem Ob (h:eX w b c)(hd:c.done=false)(e:av)(hk:e.key<18446744073709551616)(hh:e.hash<18446744073709551616)(hl:bB e ⟨c.key,0,c.hash⟩=false):Calls Tryz.prog 108 #[pQ b,aO e] w fun y w'=>y= .returned .nilIface∧eX w' b (behind e.hash e.key)∧Mod [b] w w':=by
 have hB:=(Below.refl w.heap.size w).alloc (Nat.le_refl _) (.cells #[nU e.key,nU e.val,nU e.hash] 159);have hE:=aj.new w 159 #[nU e.key,nU e.val,nU e.hash];obtain⟨W,hW⟩:∃W,W=w.alloc (.cells #[nU e.key,nU e.val,nU e.hash] 159):=⟨_,rfl⟩;rw[←hW]at hB hE;have hC:eX W b c:=h.mod (Mod.of_below hB []) (by simp);have uL:=qd (Kv hC hd e);rw[hl]at uL;have Pt:=qd (fun V=>DT e hk hh V);have HC:=qd hC;have HE:=qd hE;have HW:=qd hW;have HB:=qd hB;have HD:=qd hd;obtain⟨e0,e1,e2⟩:=hE.c3;unfold aO at uL Pt⊢;clear hW hB hE hC h hd hl;go_in;go_upto_region 1 with fail;rw[←HW.out];go_wp2_with fail;refine uL.out.mono ?_;rintro y w1 ⟨rfl,hb⟩;replace HC:=qB hb HC;replace HE:=qB hb HE;replace HB:=qd (bR hb HB.out);clear hb uL e0 e1 e2;obtain⟨e0,e1,e2⟩:=HE.out.c3;go_wp2_with fail;refine(Pt.out _).mono ?_;rintro y w2 ⟨rfl,hb⟩;replace HC:=qB hb HC;replace HB:=qd (bR hb HB.out);clear hb Pt e0 e1 e2;have HM:=qd (DV HC.out (behind e.hash e.key) HD.out Gi);go_wp2_with fail;refine HM.out.mono ?_;rintro y w3 ⟨rfl,AA,hm⟩;have nD:=qd AA;have KU:=qd ((Mod.of_below HB.out [b]).then hm);clear AA hm;go_wp2;go_ret;exact⟨rfl,nD.out,KU.out⟩
theorem Oc (h:eX w b c)(hd:c.done=false)(high:Nat)(hh:high<18446744073709551616)(hl:c.hash≤high):Calls Tryz.prog 109 #[pQ b,nU high] w fun y w'=>y= .returned .nilIface∧eX w' b (behind high 18446744073709551615)∧Mod [b] w w':=by
 have c2:=h.blk.cell 2;have c3:=h.blk.cell 3;simp only[gl]at c2 c3;rw[hd]at c3
 have hle:¬(high:Int)<(c.hash:Int):=by omega
 have Pt:=qd (show∀V,Calls Tryz.prog 153 #[.agg #[.int .u64 18446744073709551615,.int .u64 0,nU high]] V _ from fun V=>DT ⟨18446744073709551615,0,high⟩ (by simp only;omega) hh V);have HC:=qd h;have HD:=qd hd;clear h hd hl;go_in;go_wp2_with fail;refine(Pt.out _).mono ?_;rintro y w2 ⟨rfl,hb⟩;replace HC:=qB hb HC;have HB:=qd hb;clear hb Pt c2 c3;have HM:=qd (DV HC.out (behind high 18446744073709551615) HD.out Gi);go_wp2_with fail;refine HM.out.mono ?_;rintro y w3 ⟨rfl,AA,hm⟩;have nD:=qd AA;have KU:=qd ((Mod.of_below HB.out [b]).then hm);clear AA hm;go_wp2;go_ret;exact⟨rfl,nD.out,KU.out⟩
end
end
end Go.Proofs.YtgkeameopnpinaaGreatDoor
