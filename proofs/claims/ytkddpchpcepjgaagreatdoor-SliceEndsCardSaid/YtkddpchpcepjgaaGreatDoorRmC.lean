/- What a map lets go a few at a time, and what it counts. No statement of the claim. -/
import Derived.Test.YtkddpchpcepjgaaGreatDoorCoDA
namespace Go.Proofs.YtkddpchpcepjgaaGreatDoor
set_option maxRecDepth 100000
set_option maxHeartbeats 4000000
open Go.RowKit cu
section
section
variable {w : World} {b o : Nat} {t : TypeId} {cs : Array Value}
theorem Yi {n:Nat}(hp:1<=n/\n<=1099511627776)(h:aj w b t cs)(hn:cs[o]?=some (nI n)):Calls Tryz.prog 185 #[.pointer (some ⟨b,o,none⟩),.int .i64 1] w λe w'=>e= .returned (.bool true)/\aj w' b t (cs.setIfInBounds o (.int .i64 ((n-1:Nat):Int)))/\Mod [b] w w':=by
 obtain⟨b0,b1⟩:=hp
 have hx1:¬(1:Int)>(n:Int):=by omega
 have c0:=(h.cell o).trans hn;have f0:=h.frozen o;have HS:=qd (And.intro (h.ak o (.int .i64 ((n-1:Nat):Int))) ((Mod.refl [b] w).sl o (.int .i64 ((n-1:Nat):Int))))
 have he:(n:Int)-1=((n-1:Nat):Int):=by omega
 clear h hn;go_in;go_wp2;go_ret;exact⟨rfl,HS.o⟩
theorem QA (h:aj w b t cs)(hn:cs[o]?=some (.int .i64 0)):Calls Tryz.prog 185 #[.pointer (some ⟨b,o,none⟩),.int .i64 1] w λe w'=>e= .returned (.bool false)/\w=w':=by
 have c0:=(h.cell o).trans hn;clear h hn;go_in;go_wp2;go_ret;exact⟨rfl,rfl⟩
theorem Gw {n k:Nat}(hp:n<=1099511627776/\k<=1099511627776)(h:aj w b t cs)(hn:cs[o]?=some (nI n)):Calls Tryz.prog 100 #[.pointer (some ⟨b,o,none⟩),nI k] w λe w'=>∃d,d<=k/\n+d<=1099511627776/\e= .returned (nI d)/\aj w' b t (cs.setIfInBounds o (.int .i64 ((n+d:Nat):Int)))/\Mod [b] w w':=by
 obtain⟨b0,b1⟩:=hp;have c0:=(h.cell o).trans hn;have f0:=h.frozen o;have HS:=qd (λu=>And.intro (h.ak o u) ((Mod.refl [b] w).sl o u))
 have hw1:IntKind.i64.wrap (1099511627776-(n:Int))=((1099511627776-n:Nat):Int):=by rw[ZZ];omega
 have hx0:¬(k:Int)<0:=by omega
 clear h hn;by_cases hk:k<=1099511627776-n
 ·have hx1:¬((1099511627776-n:Nat):Int)<(k:Int):=by omega
  have hx2:max (k:Int) 0=(k:Int):=by omega
  have hx3:min (k:Int) ((1099511627776-n:Nat):Int)=(k:Int):=by omega
  have hw2:IntKind.i64.wrap ((n:Int)+(k:Int))=((n+k:Nat):Int):=by rw[ZZ];omega
  go_in;go_wp2;go_ret;exact⟨k,zb _,by omega,rfl,HS.o _⟩
 ·obtain⟨d,hd⟩:∃d,d=1099511627776-n:=⟨_,rfl⟩;rw[<-hd]at hw1
  have hx1:(d:Int)<(k:Int):=by omega
  have hx2:max (k:Int) 0=(k:Int):=by omega
  have hx3:min (k:Int) (d:Int)=(d:Int):=by omega
  have hw2:IntKind.i64.wrap ((n:Int)+(d:Int))=((n+d:Nat):Int):=by rw[ZZ];omega
  have HD:=qd (show d<=k/\n+d<=1099511627776 from by omega);clear hd hk;go_in;go_wp2;go_ret;exact⟨d,HD.o.1,HD.o.2,rfl,HS.o _⟩
end
structure fJ where
 k:Int
 m:Int
 i:Int
 cb:Nat
 lf:Nat
 gn:Nat
 ma:bE
 ml:bE
 ib:Nat
 last:bE
 all:bE
def fJ.cells (c:fJ):Array Value:= #[.int .i64 c.k,.int .i64 c.m,.int .i64 c.i,pQ c.cb,nI c.lf,.float .f64 0,nI c.gn,.float .f64 0,.int .i64 c.ma.p,.int .i64 c.ma.v,.int .i64 c.ma.u,.int .i64 c.ml.p,.int .i64 c.ml.v,.int .i64 c.ml.u,.bool false,.int .i64 0,pQ c.ib,.int .i64 c.last.p,.int .i64 c.last.v,.int .i64 c.last.u,.int .i64 c.all.p,.int .i64 c.all.v,.int .i64 c.all.u]
structure oH (w:World)(b:Nat)(c:fJ):Prop where
 blk:aj w b 97 c.cells
 lf:c.lf<=1099511627776
 gn:c.gn<=1099511627776
def acw (c:fJ):List Value:=[.int .i64 c.k,.int .i64 c.m,.int .i64 c.i,pQ c.cb,nI c.lf,.float .f64 0,nI c.gn,.float .f64 0]
def Yj (c:fJ):List Value:=[pQ c.ib,.int .i64 c.last.p,.int .i64 c.last.v,.int .i64 c.last.u,.int .i64 c.all.p,.int .i64 c.all.v,.int .i64 c.all.u]
theorem QB {w:World}{b:Nat}{c:fJ}(h:aj w b 97 c.cells):Met w b 97 (acw c) (Yj c) 8 c.ma c.ml 0:=⟨rfl,h⟩
theorem acy {w:World}{b:Nat}{c:fJ}{a l:bE}(h:Met w b 97 (acw c) (Yj c) 8 a l 0):aj w b 97 ({c with ma:=a,ml:=l}:fJ).cells:=h.blk
theorem oH.lt {w:World}{b:Nat}{c:fJ}(h:oH w b c):b<w.heap.size:=h.blk.lt
theorem oH.mod {S:List Nat}{w w':World}{b:Nat}{c:fJ}(h:oH w b c)(hm:Mod S w w')(hb:b∉S):oH w' b c:=⟨h.blk.mod hm hb,h.lf,h.gn⟩
instance {w w':World}{b:Nat}{c:fJ}:Md (oH w b c) w w' (oH w' b c) (λS=>b∉S):=⟨λh hm hs=>oH.mod h hm hs⟩
def qm (w:World)(b:Nat)(c:fJ)(w':World):Prop:=∃(lf gn:Nat) (ma ml:bE),lf<=c.lf/\oH w' b {c with lf:=lf,gn:=gn,ma:=ma,ml:=ml}/\Mod [b] w w'
section
variable {w : World} {b : Nat} {c : fJ}
theorem abk (h:oH w b c)(k:Nat)(hk:k<=1099511627776):Calls Tryz.prog 73 #[.pointer (some ⟨b,4,none⟩),nI k] w λe w'=>∃d,d<=k/\e= .returned (nI d)/\oH w' b {c with lf:=c.lf+d}/\Mod [b] w w':=by
 have HL:=qd (Gw (o:=4) (n:=c.lf) (k:=k) ⟨h.lf,hk⟩ h.blk rfl);have HG:=qd h.gn;clear h;go_in;go_wp2_with fail;refine HL.o.mono ?_;rintro y w1 ⟨d,h1,h2,rfl,h3,h4⟩;have HE:=qd (show∃d',d'<=k/\(Ending.returned (nI d))= .returned (nI d')/\oH w1 b {c with lf:=c.lf+d'}/\Mod [b] w w1 from⟨d,h1,rfl,⟨h3,h2,HG.o⟩,h4⟩);clear h1 h2 h3 h4;go_wp2;go_ret;exact HE.o
theorem Yk (h:oH w b c):Calls Tryz.prog 134 #[.pointer (some ⟨b,4,none⟩),.pointer (some ⟨b,8,none⟩)] w λe w'=>∃x,e= .returned (.bool x)/\qm w b c w':=by
 by_cases hz:c.lf=0
 ·have HL:=qd (QA (o:=4) h.blk (by show some (Value.int .i64 (c.lf:Int))=_;rw[hz];rfl));have HF:=qd (show qm w b c w from⟨c.lf,c.gn,c.ma,c.ml,zb _,h,Mod.refl _ _⟩);clear h hz;go_in;go_wp2_with fail;refine HL.o.mono ?_;rintro y w1 ⟨rfl,rfl⟩;go_wp2;go_ret;exact⟨false,rfl,HF.o⟩
 ·have HL:=qd (Yi (o:=4) (n:=c.lf) ⟨by omega,h.lf⟩ h.blk rfl);have HG:=qd h.gn;have HF:=qd h.lf;clear h hz;go_in;go_wp2_with fail;refine HL.o.mono ?_;rintro y w1 ⟨rfl,h1,m1⟩;have HU:=qd (tC b _ _ _ 8 _ _ 0 1 (by omega) w1 (QB (c:={c with lf:=c.lf-1}) h1));have HM:=qd m1;clear h1 m1 HL;go_wp2_with fail;refine HU.o.mono ?_;rintro y w2 ⟨rfl,h2,m2⟩;have h3:=acy (c:={c with lf:=c.lf-1}) h2;have HD:=qd (Gw (o:=6) (n:=c.gn) (k:=1) ⟨HG.o,by omega⟩ h3 rfl);replace HM:=qd (HM.o.then m2);simp only[Int.natCast_one]at HD;clear h2 m2 h3 HU;go_wp2_with fail;refine HD.o.mono ?_;rintro y w3 ⟨d,d1,d2,rfl,d3,d4⟩;have HE:=qd (show qm w b c w3 from⟨c.lf-1,c.gn+d,_,_,Nat.sub_le _ _,⟨d3,qf (Nat.sub_le _ _) HF.o,d2⟩,HM.o.then d4⟩);clear d1 d2 d3 d4 HD;go_wp2;go_ret;exact⟨true,rfl,HE.o⟩
theorem qm.next {w1 w2:World}(h:qm w b c w1)(hn:∀c',oH w1 b c'->qm w1 b c' w2):qm w b c w2:=by
 obtain⟨lf,gn,ma,ml,h1,h2,h3⟩:=h;obtain⟨lf',gn',ma',ml',k1,k2,k3⟩:=hn _ h2;exact⟨lf',gn',ma',ml',qf k1 h1,k2,h3.then k3⟩
theorem Vw (h:oH w b c)(n:Nat)(hn:n<=1000):Calls Tryz.prog 97 #[.pointer (some ⟨b,4,none⟩),.pointer (some ⟨b,8,none⟩),nI n] w λe w'=>∃d:Nat,e= .returned (nI d)/\qm w b c w':=by
 have HW:=qd (show qm w b c w from⟨c.lf,c.gn,c.ma,c.ml,zb _,h,Mod.refl _ _⟩);clear h;go_in;go_wp2;go_loopw [7] (λv7 wr=>∃i:Nat,i<=n/\v7=nI i/\Hqq (qm w b c wr)) (λv7 _=>n-(intOf v7).toNat)
 case atStart=>exact⟨0,by omega,rfl,HW⟩
 case round=>
  clear HW;obtain⟨i,hi,rfl,HW⟩:=hrel;by_cases hlt:i<n
  ·have hlt':(i:Int)<(n:Int):=by omega
   obtain⟨lf,gn,ma,ml,q1,q2,q3⟩:=HW.o;have HS:=qd (Yk q2);have HQ:=qd (And.intro q1 q3)
   have hw1:IntKind.i64.wrap ((i:Int)+1)=((i+1:Nat):Int):=by rw[ZZ];omega
   clear q1 q2 q3 HW;go_wp2_with fail;refine HS.o.mono ?_;rintro y w2 ⟨x,rfl,lf',gn',ma',ml',k1,k2,k3⟩;have HW2:=qd (show qm w b c w2 from⟨lf',gn',ma',ml',qf k1 HQ.o.1,k2,HQ.o.2.then k3⟩);clear k1 k2 k3 HS HQ
   cases x with
   |true=>
    go_wp2;go_roundw
    case rel=>exact⟨i+1,by omega,rfl,HW2⟩
    case measure=>simp[intOf];omega
   |false=>
    go_wp2;go_ret
    first|exact⟨i,rfl,HW2.o⟩|exact⟨⟨i,rfl⟩,HW2.o⟩
  ·have hlt':¬(i:Int)<(n:Int):=by omega
   go_wp2;go_ret
   first|exact⟨i,rfl,HW.o⟩|exact⟨⟨i,rfl⟩,HW.o⟩
end
theorem Yl (k m i:Int)(hk:1<=k/\k<=64)(w:World):Calls Tryz.prog 98 #[eX k m i] w λe w'=>e= .returned (.int .i64 (4*k))/\Below w.heap.size w w':=by
 have hB:=(Below.refl w.heap.size w).alloc (zb _) (.cells #[.int .i64 k,.int .i64 m,.int .i64 i] 23);have hC:=aj.new w 23 #[.int .i64 k,.int .i64 m,.int .i64 i];obtain⟨W,hW⟩:∃W,W=w.alloc (.cells #[.int .i64 k,.int .i64 m,.int .i64 i] 23):=⟨_,rfl⟩;rw[<-hW]at hB hC;obtain⟨c0,c1,c2⟩:=hC.c3;have HW:=qd hW;have HB:=qd hB;have HP:=qd (Cr k m i 4 hk (by omega) W);unfold eX at HP|-;clear hW hB hC hk;go_in;go_upto_region 1 with fail;rw[<-HW.o];go_wp2_with fail;refine(HP.o).mono ?_;rintro y w1 ⟨rfl,hb⟩;have HB2:=qd (HB.o.trans (hb.mono HB.o.size));clear hb;go_wp2;go_ret;exact⟨iE (by omega),HB2.o⟩
theorem JW {w:World}{mb:Nat}{t:TypeId}{pre post:List Value}{mo:Nat}{a l:bE}{m:Int}(h:Met w mb t pre post mo a l m):Calls Tryz.prog 50 #[.pointer (some ⟨mb,mo,none⟩)] w λe w'=>e= .returned (nL l)/\Below w.heap.size w w':=by
 have m3:w.cell? ⟨mb,mo+3,none⟩=some (.int .i64 l.p):=h.at_ 3 (by omega);have m4:w.cell? ⟨mb,mo+3+1,none⟩=some (.int .i64 l.v):=h.at_ 4 (by omega);have m5:w.cell? ⟨mb,mo+3+2,none⟩=some (.int .i64 l.u):=h.at_ 5 (by omega);have hl:=h.lt;have hB:=(Below.refl w.heap.size w).alloc (zb _) (.cells #[.int .i64 0,.int .i64 0,.int .i64 0] 93);have hX:=aj.new w 93 #[.int .i64 0,.int .i64 0,.int .i64 0];obtain⟨W,hW⟩:∃W,W=w.alloc (.cells #[.int .i64 0,.int .i64 0,.int .i64 0] 93):=⟨_,rfl⟩;rw[<-hW]at hB hX;replace m3:=aA hB m3;replace m4:=aA hB m4;replace m5:=aA hB m5;obtain⟨x0,x1,x2⟩:=hX.c3;obtain⟨f0,f1,f2⟩:=hX.f3;have HW:=qd hW;have HB:=qd hB;unfold nL;clear h hW hB hX;go_in;go_upto_region 1 with fail;rw[<-HW.o];go_wp2;refine bodyPost_ret (v:= .agg #[.int .i64 l.p,.int .i64 l.v,.int .i64 l.u]) (by simp[results,Tryz.results50,go_sem,x0,x1,x2]) rfl ?_;exact⟨rfl,(((HB.o).setCell (p:=⟨w.heap.size,0,none⟩) (zb _) _).setCell (p:=⟨w.heap.size,1,none⟩) (zb _) _).setCell (p:=⟨w.heap.size,2,none⟩) (zb _) _⟩
section
variable {w : World} {b : Nat} {c : fJ}
theorem vH (h:oH w b c)(d:bE):Calls Tryz.prog 48 #[pQ b,nL d] w λy w'=>y= .returned undef/\oH w' b {c with last:=d,all:=jN c.all d}/\Mod [b] w w':=by
 obtain⟨s,hs⟩:∃s,s=jN c.all d:=⟨_,rfl⟩;have jP:=qd (λV=>BX c.all d V);rw[<-hs]at jP|-;clear hs;have Ym:=qd trivial;have hB:=(Below.refl w.heap.size w).alloc (zb _) (.cells #[.int .i64 d.p,.int .i64 d.v,.int .i64 d.u] 93);have hX:=aj.new w 93 #[.int .i64 d.p,.int .i64 d.v,.int .i64 d.u];obtain⟨W,hW⟩:∃W,W=w.alloc (.cells #[.int .i64 d.p,.int .i64 d.v,.int .i64 d.u] 93):=⟨_,rfl⟩;rw[<-hW]at hB hX
 have hne:b≠w.heap.size:=λe=>by have:=h.lt;omega
 have hC:=h.mod (Mod.of_below hB []) (by simp);have HL:=qd (And.intro h.lf h.gn);have hbk:=hC.blk;unfold fJ.cells at hbk;have x0:=hX.cell 0;have x1:=hX.cell 1;have x2:=hX.cell 2;have c17:=hbk.cell 17;have c18:=hbk.cell 18;have c19:=hbk.cell 19;simp only[gl]at x0 x1 x2 c17 c18 c19;have f17:=hbk.frozen 17;have f18:=hbk.frozen 18;have f19:=hbk.frozen 19;have HW:=qd hW;have HB:=qd hB;have HX:=qd hX;have HK:=qd hbk;unfold nL;clear h hW hB hX hC hbk;go_in;go_upto_region 1 with fail;rw[<-HW.o];go_upto_region 2 with fail;have hnew:=((HK.o.ak 17 (.int .i64 d.p)).ak 18 (.int .i64 d.v)).ak 19 (.int .i64 d.u);have hm:=(((Mod.refl [b] W).sl 17 (.int .i64 d.p)).sl 18 (.int .i64 d.v)).sl 19 (.int .i64 d.u);simp only[pt]at hnew;refine ab7 hnew hm ?_;clear hnew hm HK x0 x1 x2 c17 c18 c19 f17 f18 f19;rintro W1 ⟨hK,hm⟩;have HM:=qd ((Mod.of_below HB.o [b]).then hm);replace HX:=qd (HX.o.mod hm (by simp;omega));have HK:=qd hK;clear hK hm;have x0:=HX.o.cell 0;have x1:=HX.o.cell 1;have x2:=HX.o.cell 2;have c20:=HK.o.cell 20;have c21:=HK.o.cell 21;have TF:=HK.o.cell 22;simp only[gl]at x0 x1 x2 c20 c21 TF;clear Ym;have HP:=qd (λV=>(show Calls Tryz.prog 83 #[.agg #[.int .i64 c.all.p,.int .i64 c.all.v,.int .i64 c.all.u],.agg #[.int .i64 d.p,.int .i64 d.v,.int .i64 d.u]] V λe w'=>e= .returned (.agg #[.int .i64 s.p,.int .i64 s.v,.int .i64 s.u])/\Below V.heap.size V w' from jP.o V));clear jP
 refine rT (λ(w':World)=>w'.cell? ⟨w.heap.size,0,none⟩=some (.int .i64 d.p)/\w'.cell? ⟨w.heap.size,1,none⟩=some (.int .i64 d.v)/\w'.cell? ⟨w.heap.size,2,none⟩=some (.int .i64 d.u)/\w'.cell? ⟨b,20,none⟩=some (.int .i64 c.all.p)/\w'.cell? ⟨b,21,none⟩=some (.int .i64 c.all.v)/\w'.cell? ⟨b,22,none⟩=some (.int .i64 c.all.u)) [9] ?_;have hHeld:=(⟨x0,x1,x2,c20,c21,TF⟩:_/\_/\_/\_/\_/\_);refine vW 0 rfl ?_;refine vW 1 rfl ?_;refine vW 2 rfl ?_;refine vW 3 rfl ?_;refine vT 4 rfl ?_;refine vT 5 rfl ?_;refine nT 6 rfl λK hK=> ?_;go_simp;refine(HP.o _).mono ?_;rintro y W2 ⟨rfl,hb⟩;replace hb:Below W1.heap.size W1 W2:=bN hb (Below.refl _ _).drew;replace HK:=qB hb HK;replace HX:=qB hb HX;replace HM:=qd (HM.o.then (Mod.of_below hb [b]));clear hb HP x0 x1 x2 c20 c21 TF;have x0:=HX.o.cell 0;have x1:=HX.o.cell 1;have x2:=HX.o.cell 2;have c20:=HK.o.cell 20;have c21:=HK.o.cell 21;have TF:=HK.o.cell 22;simp only[gl]at x0 x1 x2 c20 c21 TF;go_wp2_with fail;have hHeld:=(⟨x0,x1,x2,c20,c21,TF⟩:_/\_/\_/\_/\_/\_);refine kO hK ?_;clear hK K;refine vW 7 rfl ?_;refine vW 8 rfl ?_;refine nT 9 rfl λK hK=> ?_;have f20:=HK.o.frozen 20;have f21:=HK.o.frozen 21;have f22:=HK.o.frozen 22;have hnew:=((HK.o.ak 20 (.int .i64 s.p)).ak 21 (.int .i64 s.v)).ak 22 (.int .i64 s.u);have hm:=(((Mod.refl [b] W2).sl 20 (.int .i64 s.p)).sl 21 (.int .i64 s.v)).sl 22 (.int .i64 s.u);simp only[pt]at hnew;have HN:=qd hnew;have HQ:=qd (HM.o.then hm);clear hnew hm;go_simp;refine kO hK ?_;clear hK K
 refine aV (by kernel_rfl) ?_ _;go_wp2;go_end0;exact⟨rfl,⟨HN.o,HL.o.1,HL.o.2⟩,HQ.o⟩
def Wrote (w:World)(b:Nat)(c:fJ)(w':World):Prop:=∃(lf gn:Nat) (ma ml last all:bE),lf<=c.lf/\oH w' b {c with lf:=lf,gn:=gn,ma:=ma,ml:=ml,last:=last,all:=all}/\Mod [b] w w'
theorem Il (h:oH w b c)(hk:1<=c.k/\c.k<=64)(d:bE):Calls Tryz.prog 69 #[pQ b,nL d] w λy w'=>y= .returned undef/\Wrote w b c w':=by
 have hB:=(Below.refl w.heap.size w).alloc (zb _) (.cells #[.int .i64 d.p,.int .i64 d.v,.int .i64 d.u] 93);have hX:=aj.new w 93 #[.int .i64 d.p,.int .i64 d.v,.int .i64 d.u];obtain⟨W,hW⟩:∃W,W=w.alloc (.cells #[.int .i64 d.p,.int .i64 d.v,.int .i64 d.u] 93):=⟨_,rfl⟩;rw[<-hW]at hB hX
 have hne:b≠w.heap.size:=λe=>by have:=h.lt;omega
 have hC:=h.mod (Mod.of_below hB []) (by simp);have HC:=qd hC;have jU:=qd (FX b _ _ _ 8 _ _ 0 W (QB hC.blk));have HW:=qd hW;have HM:=qd (Mod.of_below hB [b]);have HX:=qd hX;obtain⟨bx,hbx⟩:∃bx,bx=w.heap.size:=⟨_,rfl⟩;rw[<-hbx]at HX hne;have jr:=qd hne;unfold nL;clear h hW hB hX hC hne;go_in;go_upto_region 1 with fail;rw[<-HW.o];rw[<-hbx];clear hbx;go_wp2_with fail;refine jU.o.mono ?_;rintro y W1 ⟨rfl,hm1,hm⟩;have h1:=acy hm1;replace HX:=qd (HX.o.mod hm (λhh=>jr.o (zj.1 hh).symm));replace HM:=qd (HM.o.then hm);have ug:=qd (show oH W1 b {c with ml:=⟨0,0,0⟩} from⟨h1,HC.o.lf,HC.o.gn⟩);clear hm1 hm jU HC;have hbk:=h1;unfold fJ.cells at hbk;obtain⟨c0,c1,c2⟩:=hbk.c3;clear h1 hbk;have L8:=qd (show∀V,Calls Tryz.prog 98 #[.agg #[.int .i64 c.k,.int .i64 c.m,.int .i64 c.i]] V _ from λV=>Yl c.k c.m c.i hk V);go_upto_region 2 with fail;refine rT (λ(w':World)=>w'.cell? ⟨b,0,none⟩=some (.int .i64 c.k)/\w'.cell? ⟨b,1,none⟩=some (.int .i64 c.m)/\w'.cell? ⟨b,2,none⟩=some (.int .i64 c.i)) [11] ?_;have hHeld:=(⟨c0,c1,c2⟩:_/\_/\_);refine vW 0 rfl ?_;refine vW 1 rfl ?_;refine vW 2 rfl ?_;refine vW 3 rfl ?_;refine vW 4 rfl ?_;refine vW 5 rfl ?_;refine vW 6 rfl ?_;refine vW 7 rfl ?_;refine vW 8 rfl ?_;refine vT 9 rfl ?_;refine nT 10 rfl λK hK=> ?_;go_simp;refine(L8.o _).mono ?_;rintro y W2 ⟨rfl,hb⟩;replace hb:Below W1.heap.size W1 W2:=bN hb (Below.refl _ _).drew;replace ug:=qB hb ug;replace HX:=qB hb HX
 replace HM:=qd (HM.o.then (Mod.of_below hb [b]));replace c0:=aA hb c0;replace c1:=aA hb c1;replace c2:=aA hb c2;clear hb L8;go_wp2_with fail;have hHeld:=(⟨c0,c1,c2⟩:_/\_/\_);refine kO hK ?_;clear hK K;refine nT 11 rfl λK hK=> ?_;go_simp;obtain⟨n4,hn4⟩:∃n4:Nat,4*c.k=(n4:Int):=⟨(4*c.k).toNat,by omega⟩;rw[hn4];have Dl:=qd (Vw ug.o n4 (by omega));refine Dl.o.mono ?_;rintro y W3 ⟨dn,rfl,lf,gn,ma,ml,g1,g2,g3⟩;replace HX:=qd (HX.o.mod g3 (λhh=>jr.o (zj.1 hh).symm));replace HM:=qd (HM.o.then g3);have nZ:=qd g2;have qg:=qd g1;clear g1 g2 g3 Dl hn4 ug c0 c1 c2;go_wp2_with fail;refine kO hK ?_;clear hK K;refine aV (by kernel_rfl) ?_ _;go_upto_region 3 with fail;obtain⟨C3,Dp⟩:∃C3:fJ,C3={c with lf:=lf,gn:=gn,ma:=ma,ml:=ml}:=⟨_,rfl⟩;replace nZ:=qd (show oH W3 b C3 from Dp▸nZ.o);have fE:=qd (show Calls Tryz.prog 50 #[.pointer (some ⟨b,8,none⟩)] (World.drew W3) _ from JW (QB (nZ.o.mod (Mod.of_below (Below.refl W3.heap.size W3).drew []) (by simp)).blk));have jP:=qd (λV=>BX d C3.ml V);obtain⟨s,hs⟩:∃s,s=jN d C3.ml:=⟨_,rfl⟩;rw[<-hs]at jP;unfold nL at fE jP;have HQ:=qd Dp;clear hs Dp;obtain⟨x0,x1,x2⟩:=HX.o.c3;refine rT (λ(w':World)=>w'.cell? ⟨bx,0,none⟩=some (.int .i64 d.p)/\w'.cell? ⟨bx,1,none⟩=some (.int .i64 d.v)/\w'.cell? ⟨bx,2,none⟩=some (.int .i64 d.u)) [6,7] ?_;have hHeld:=(⟨x0,x1,x2⟩:_/\_/\_);refine vW 0 rfl ?_;refine vT 1 rfl ?_;refine vW 2 rfl ?_;refine vW 3 rfl ?_;refine vW 4 rfl ?_;refine nT 5 rfl λK hK=> ?_;go_simp
 refine(fE.o).mono ?_;rintro y W4 ⟨rfl,hb⟩;replace hb:Below W3.heap.size W3 W4:=bN hb (Below.refl _ _).drew;replace nZ:=qB hb nZ;replace HM:=qd (HM.o.then (Mod.of_below hb [b]));replace x0:=aA hb x0;replace x1:=aA hb x1;replace x2:=aA hb x2;clear hb fE;go_wp2_with fail;have hHeld:=(⟨x0,x1,x2⟩:_/\_/\_);refine kO hK ?_;clear hK K;refine nT 6 rfl λK hK=> ?_;go_simp;refine(jP.o _).mono ?_;rintro y W5 ⟨rfl,hb⟩;replace nZ:=qB hb nZ;replace HM:=qd (HM.o.then (Mod.of_below hb [b]));clear hb jP x0 x1 x2;go_wp2_with fail;refine kO hK ?_;clear hK K;refine nT 7 rfl λK hK=> ?_;go_simp;have EM:=qd (show Calls Tryz.prog 48 #[pQ b,.agg #[.int .i64 s.p,.int .i64 s.v,.int .i64 s.u]] W5 _ from vH nZ.o s);refine(EM.o).mono ?_;rintro y W6 ⟨rfl,h6,m6⟩;have HE:=qd (show Wrote w b c W6 from⟨lf,gn,ma,ml,s,jN C3.all s,qg.o,by have h7:=h6;rw[HQ.o]at h7|-;exact h7,HM.o.then m6⟩);clear h6 m6 EM;go_wp2_with fail;refine kO hK ?_;clear hK K;refine aV (by kernel_rfl) ?_ _;go_wp2;go_end0;exact⟨rfl,HE.o⟩
end
end
section
def kJ (W0:World)(E:Nat->Addr)(H:Nat->Nat)(K M mb:Nat)(G:List Nat)(w:World)(a:Pool)(ids:List Nat)(c:bE):Prop:=
 ∃(C:iW) (F:List Nat) (len:Nat) (b:Int) (x:bS),C.mb=mb/\C.K=K/\C.M=M/\G=C.foot F/\aD W0 E H C w (C.foot F) w F ⟨a,ids,len,b,x⟩/\kX a ids []/\len=a.ents.length/\len<=M/\x.last=c
def QC (c:bE):Prop:=0<=c.p/\c.p<=192/\c.u=0
section
variable {W0 : World} {E : Nat -> Addr} {H : Nat -> Nat} {K M mb : Nat} {G : List Nat} {w w' : World} {a : Pool} {ids : List Nat} {c : bE}
theorem kJ.at_ (h:kJ W0 E H K M mb G w a ids c):gU W0 E H K M mb G w a ids:=by
 obtain⟨C,F,len,b,x,h1,h2,h3,h4,h5,h6,h7,h8,_⟩:=h;exact⟨C,F,len,b,x,h1,h2,h3,h4,h5,h6,h7,h8⟩
theorem gU.c_ (h:gU W0 E H K M mb G w a ids):∃c,kJ W0 E H K M mb G w a ids c:=by
 obtain⟨C,F,len,b,x,h1,h2,h3,h4,h5,h6,h7,h8⟩:=h;exact⟨_,C,F,len,b,x,h1,h2,h3,h4,h5,h6,h7,h8,rfl⟩
theorem uj (cb:Nat)(w:World):Calls Tryz.prog 49 #[pQ cb] w λy w'=>y= .returned (.pointer (some ⟨cb,3,none⟩))/\w=w':=by
 go_in;go_wp2;go_ret;exact⟨rfl,rfl⟩
theorem BI (h:kJ W0 E H K M mb G w a ids c):Calls Tryz.prog 50 #[.pointer (some ⟨mb,3,none⟩)] w λy w'=>y= .returned (nL c)/\Below w.heap.size w w':=by
 obtain⟨C,F,len,b,x,h1,h2,h3,h4,h5,h6,h7,h8,h9⟩:=h;rw[<-h1,<-h9];exact JW (show Met w C.mb _ _ _ 3 x.all x.last C.m from h5.aF.met)
theorem kJ.mod {S:List Nat}(h:kJ W0 E H K M mb G w a ids c)(hm:Mod S w w')(hS:∀q∈S,q∉G/\W0.heap.size<=q):kJ W0 E H K M mb G w' a ids c:=by
 obtain⟨C,F,len,b,x,h1,h2,h3,rfl,hC,hi,hl,hm',hx⟩:=h
 have hd:∀q∈S,q≠C.mb/\q∉C.s.blocks/\q∉F/\C.v.ownBlock≠some q:=λq hq=>by
  have:=(hS q hq).1;rw[bB]at this;simp only[not_or]at this;exact this
 refine⟨C,F,len,b,x,h1,h2,h3,rfl,⟨bH.start (hC.aF.aF.mod hm (λq hq dS=>(hd q dS).2.1 hq)) (hC.hp.Av hC.aF.pool hm (λq hq dS=>(hd q dS).2.2.1 hq)) (hC.aF.met.mod hm (λhq=>(hd _ hq).1 rfl)) (hC.aF.env.mod hm (λq hq=>(hS q hq).2)) hC.aF.apart hC.aF.sJ,kG hC.row hm (λk hk JM=>(hd k JM).2.2.2 hk),hC.BF,hC.pos,hC.kk,hC.mm, ?_,λq hq=> .inl hq,Mod.refl _ _⟩,hi,hl,hm',hx⟩;have:=hC.aF.env.size;have:=hm.size;omega
theorem kJ.below (h:kJ W0 E H K M mb G w a ids c)(hb:Below w.heap.size w w'):kJ W0 E H K M mb G w' a ids c:=h.mod (Mod.of_below hb []) (by simp)
theorem Yn (h:gU W0 E H K M mb G w a ids)(key hash:Nat)(h64:hash<18446744073709551616):Calls Tryz.prog 142 #[bg mb,nU hash,nU key] w λy w'=>
  ∃(o:Option ay) (hi:Nat) (c:bE) (G':List Nat),y= .returned (.tuple #[aP (o.getD ⟨0,0,0⟩),.bool o.isSome,nU hi])/\(hash<=hi/\hi<18446744073709551616/\hi∈zW a/\(∀x∈zW a,hash<=x->hi<=x)/\ig ⟨key,0,hash⟩ (upto a.ents hi) o)/\QC c/\kJ W0 E H K M mb G' w' a ids c/\(∀q∈G',q∈G\/w.heap.size<=q)/\Mod G w w':=by
 obtain⟨f1,f2,f3,f4,f5,f6,_⟩:=h.facts;obtain⟨C,F,len,b,x,h1,h2,h3,rfl,hC,hi,hl,hm⟩:=h;rw[<-h1];refine(Vv hC hi key hash h64).mono ?_;rintro y w' ⟨v,rfl,id,N,o,x',hN,hid,hIs,rfl,hc,hco⟩;replace hN:a.Ns[id]?=some N:=hN;replace hid:id=a.l.getD (eu hash a.d) 0:=hid;obtain⟨N',hN',htop⟩:=f1.dir.at_ h64 f2;rw[<-hid,hN]at hN';cases hN';have hok:=f6 id N hN;obtain⟨r1,r2⟩:=wU.1 htop;have hlow:=BU (d:=N.au) (p:=N.pfx) (by have:=hok.deep;omega) hok.pfx;have hp:=pos2 (64-N.au);obtain⟨k1,k2,k3,k4⟩:=hco (Int.le_refl _) (Int.le_refl _)
 have agD:mq N.pfx N.au<18446744073709551616:=by unfold oK at hlow;unfold mq;omega
 refine⟨o,mq N.pfx N.au,x'.last,_,rfl,⟨r2,agD,Z3.2 ⟨N,zE hN,rfl⟩,λx hx hle=> ?_,RV hIs (λe he hle=> ?_) (λe he=> ?_)⟩,⟨k1,by simp only at k2;omega,by simp only at k4;omega⟩,⟨C,F,len,b,x',rfl,h2,h3,rfl,hc.again,hi,hl,hm,rfl⟩,hc.sub,hc.mod⟩
 ·obtain⟨N2,hN2,rfl⟩:=Z3.1 hx;obtain⟨j,hj⟩:=List.mem_iff_getElem?.1 hN2;by_cases hlt:mq N2.pfx N2.au<mq N.pfx N.au
  ·have e1:=f1.dir.Qk (by omega) f2 hN (wU.2 ⟨qf r1 hle,Nat.le_of_lt hlt⟩);have e2:=f1.dir.Qk (by omega) f2 hj (wU.2 ⟨by unfold oK mq;have:=pos2 (64-N2.au);omega,zb _⟩);rw[e1]at e2;subst e2;rw[hN]at hj;cases hj;exact zb _
  ·omega
 ·obtain⟨g1,g2⟩:=oP.1 he;obtain⟨j,M',k1,k2⟩:=ng.1 g1;obtain⟨k3,k4⟩:=(f6 j M' k1).hash e k2;have e1:=f1.dir.Qk k3.h64 f2 k1 k4;have e2:=f1.dir.Qk k3.h64 f2 hN (wU.2 ⟨by have:=MR hle;omega,g2⟩);rw[e1]at e2;subst e2;rw[hN]at k1;cases k1;exact k2
 ·obtain⟨k3,k4⟩:=hok.hash e he;exact oP.2 ⟨ng.2 ⟨id,N,hN,he⟩,(wU.1 k4).2⟩
def EN (H:Nat->Nat)(K M:Nat)(a:Pool)(ids:List Nat)(e:ay)(a':Pool)(aL:List Nat):Prop:=a'.ents.Perm (KY M a.ents e)/\(look a.ents e.key=none->a.ents.length<M->Yd H K a ids [] [e] a' aL)
theorem adl (h:gU W0 E H K M mb G w a ids)(e:ay)(he:kH H e):Calls Tryz.prog 68 #[bg mb,nU e.key,nU e.val,nU e.hash] w λy w'=>
  y= .returned (eT E (vG M a.ents e.key))/\∃a' aL,kV W0 E H K M mb G w w' a' aL/\EN H K M a ids e a' aL:=by
 obtain⟨f1,f2,f3,f4,f5,f6,_,_,_,f10,_⟩:=h.facts;refine(aeH h e he).mono ?_;rintro y w' (⟨h1,h2,rfl,hto⟩|⟨a',aL,h1,h2,rfl,hw,hto⟩|⟨a',aL,e0,h1,rfl,hw,hto⟩)
 ·have hf:uh M a.ents e.key=true:=by simp[uh,h1,h2]
  unfold EN vG KY;rw[hf];exact⟨rfl,a,ids,hto,.refl _,λ_ hl=>by omega⟩
 ·have hf:uh M a.ents e.key=false:=by simp[uh,h1];omega
  unfold EN vG KY;rw[hf,EK h1];have hw0:=hw;obtain⟨_,_,_,_,_,_,⟨r,hr1,hr2⟩,_⟩:=hw;have h3:(e::r).Perm (e::a.ents):= .cons e hr1.symm;exact⟨rfl,a',aL,hto,hr2.trans (h3.trans (List.perm_append_singleton e a.ents).symm),λ_ _=>hw0⟩
 ·have hf:uh M a.ents e.key=false:=by simp[uh,h1]
  unfold EN vG KY;rw[hf];obtain⟨_,_,_,_,_,_,⟨r,hr1,hr2⟩,_⟩:=hw;obtain⟨m1,m2⟩:=qj h1;obtain⟨j,N,k1,k2⟩:=ng.1 m1;obtain⟨k3,_⟩:=(f6 j N k1).hash e0 k2
  have hee:({e0 with val:=e.val}:ay)=e:=by
   have h4:e0.hash=e.hash:=by rw[k3.hash,m2,he.hash]
   obtain⟨a1,a2,a3⟩:=e;simp only at m2 h4;simp[m2,h4]
  rw[hee]at hr2;have h3:=EL f10 hr1;rw[m2]at h3;exact⟨rfl,a',aL,hto,hr2.trans ((List.Perm.cons e h3.symm).trans (List.perm_append_singleton e _).symm),λhl=>by rw[h1]at hl;cases hl⟩
end
end
