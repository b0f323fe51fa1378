/- A table's Find, Put, Delete by their contracts. -/
import Derived.Test.YtkkibocdfijnhaaGreatDoorTabT
import Derived.Test.YtkkibocdfijnhaaGreatDoorSqM
import Derived.Test.YtkkibocdfijnhaaGreatDoorLaneP
import Derived.Test.YtkkibocdfijnhaaGreatDoorCoO
import Derived.Test.YtkkibocdfijnhaaGreatDoorTabS
namespace Go.Proofs.YtkkibocdfijnhaaGreatDoor
set_option maxRecDepth 100000
set_option maxHeartbeats 4000000
open Go.RowKit bV Go
theorem aZ {p F:World→Prop}{w:World}(h:F w)(h2:∀v,F v→p v):p w:=h2 w h
theorem gG.below {w w':World}(h:gG w)(hb:Below w.heap.size w w'):gG w':=fun i hi=>aA hb (h i hi)
theorem gG.mod {S:List Nat}{w w':World}(h:gG w)(hm:Mod S w w')(hs:16 ∉S):gG w':=fun i hi=>
 (hm.cell_ (p:=⟨16,o9 i,none⟩) (World.block_lt_of_cell? w _ (h i hi)) hs).trans (h i hi)
def iA (gs:Tab)(key hash:Nat):Option ay:=(aJ gs key hash).1.map fun x=>(aH gs x.1 x.2).ent
def fE (o:Option ay):Value:= .tuple #[aP (o.getD ⟨0,0,0⟩),.bool o.isSome]
theorem gV (tb gb key hash:Nat)(T:aC)(ap fp:Option Addr)(fs:Int)(hap:iF gb (aJ T.gs key hash).1 ap)(w:World)(h:TabAt w tb gb T):
  Calls Tryz.prog 109 #[bN tb key hash ap (bT (aJ T.gs key hash).1) fp fs] w fun x w'=>x= .returned (fE (iA T.gs key hash))∧Below w.heap.size w w':=by
 unfold iA fE
 cases hs:(aJ T.gs key hash).1 with
 |none=>exact GL tb key hash ap fp fs w
 |some x=>
  obtain⟨i,s⟩:=x;obtain⟨e,h1,_,h3,h4⟩:=uS hs;obtain rfl:=hap i s hs;have:=GQ tb key hash gb fp fs T i s h3 (by have:=h.wide.at_ h3;omega) e h1 w h;simpa[bT,h1,Slot.ent]using this
theorem RF (tb gb:Nat)(T:aC)(mb:Nat)(mt:TypeId)(gY eY:List Value)(mo:Nat)(a0 l0:bC)(m:Int)(c:bC)(key hash:Nat)(w:World)(h:TabAt w tb gb T)(hP:Pw T.gs.length)(h64:hash<18446744073709551616)(hM:Met w mb mt gY eY mo a0 l0 m)(hmt:mb≠tb)(gU:mb≠gb)(hT:gG w)(hz:16 ≠mb):
  Calls Tryz.prog 99 #[bQ tb,aI (some ⟨mb,mo,none⟩) c,nU key,nU hash] w fun x w'=>x= .returned (fE (iA T.gs key hash))∧Met w' mb mt gY eY mo (eX a0 c (aJ T.gs key hash).2.2) (eX l0 c (aJ T.gs key hash).2.2) m∧Mod [mb] w w':=by
 obtain⟨W,hW,hB,hL,hD⟩:=kF w 147 #[.pointer (some ⟨mb,mo,none⟩),.int .i64 c.p,.int .i64 c.v,.int .i64 c.u] 62 #[.int .u64 0,.int .u64 0,.int .u64 0];obtain⟨JN,JO,JQ,JR⟩:=hL.c4;have hml:=hM.lt;have lX:=h.below hB;have aX:=qd (rH tb gb key hash T mb mt gY eY mo a0 l0 m c W lX hP h64 (hM.below hB) hmt gU (hT.below hB) hz);have HW:=qd hW;have HB:=qd hB;have bJ:=qd (fun ap fp fs hap V hV=>gV tb gb key hash T ap fp fs hap V hV);unfold bQ aI bN at aX;unfold bN fE aP at bJ;unfold bQ aI fE aP;clear hW hB h hM;obtain⟨fe,hfe⟩:∃fe,fe=(iA T.gs key hash).getD ⟨0,0,0⟩:=⟨_,rfl⟩;obtain⟨fb,pF⟩:∃fb,fb=(iA T.gs key hash).isSome:=⟨_,rfl⟩;rw[←hfe,←pF]at bJ⊢;clear hfe pF;go_in;go_upto_region 1 with fail;rw[←HW.out];go_wp2_with fail;refine(aX.out).mono ?_;rintro x w1 ⟨ap,fp,rfl,hap,hfp,hM1,hm1⟩;have TT:=qd hM1;have hD1:=hD.mod hm1 (by simp;omega);have xu:=qd (bJ.out ap fp (bT (aJ T.gs key hash).2.1) hap w1 (lX.mod hm1 (by simp;omega) (by simp;omega)));clear hM1 hap hfp hD lX;go_wp2_with fail;refine(xu.out).mono ?_;rintro x w2 ⟨rfl,hb2⟩;have hD2:=hD1.below hb2 hD1.lt;obtain⟨d0,d1,d2⟩:=hD2.c3;obtain⟨f0,f1,f2⟩:=hD2.f3;have hM2:=TT.out.below hb2;have hm2:=((Mod.of_below HB.out [mb]).then hm1).then (Mod.of_below hb2 [mb]);have hlw:=hD1.lt;have gy:=((hm2.ak (b:=w.heap.size+1) (.inr (by omega)) 0 (nU fe.key)).ak (b:=w.heap.size+1) (.inr (by omega)) 1 (nU fe.val)).ak (b:=w.heap.size+1) (.inr (by omega)) 2 (nU fe.hash)
 have hne:mb≠w.heap.size+1:=by omega
 have HP:=qd (And.intro (show Met _ mb mt gY eY mo _ _ m from⟨hM2.len,((hM2.blk.far (p:=⟨w.heap.size+1,0,none⟩) hne (nU fe.key)).far (p:=⟨w.heap.size+1,1,none⟩) hne (nU fe.val)).far (p:=⟨w.heap.size+1,2,none⟩) hne (nU fe.hash)⟩) gy);clear hM2 hm2 gy hb2 hm1 hD1 hD2;go_wp2;refine bodyPost_ret (v:= .tuple #[.agg #[nU fe.key,nU fe.val,nU fe.hash],.bool fb]) ?_ rfl ⟨rfl,HP.out.1,HP.out.2⟩;simp[results,Tryz.results99,go_sem,d0,d1,d2]
theorem K7 (tb gb:Nat)(T:aC)(mb:Nat)(mt:TypeId)(gY eY:List Value)(mo:Nat)(a0 l0:bC)(m:Int)(c:bC)(e:ay)(w:World)(h:TabAt w tb gb T)(hP:Pw T.gs.length)(h64:e.hash<18446744073709551616)(hM:Met w mb mt gY eY mo a0 l0 m)(hmt:mb≠tb)(gU:mb≠gb)(hT:gG w)(hz:16 ≠mb)(hsk:(aJ T.gs e.key e.hash).1=none)(i s:Nat)(hfr:(aJ T.gs e.key e.hash).2.1=some (i,s))(hS:Small T)(hroom:T.live+T.cK+1≤7*(T.gs.length:Int)):
  Calls Tryz.prog 284 #[bQ tb,aI (some ⟨mb,mo,none⟩) c,aP e] w fun x w'=>x= .returned (.tuple #[.bool true,.nilIface])∧TabAt w' tb gb (jE T i s e)∧Met w' mb mt gY eY mo (eX a0 c (aJ T.gs e.key e.hash).2.2) (eX l0 c (aJ T.gs e.key e.hash).2.2) m∧Mod [mb,tb,gb] w w':=by
 obtain⟨W,hW,hB,hL,hE⟩:=kF w 147 #[.pointer (some ⟨mb,mo,none⟩),.int .i64 c.p,.int .i64 c.v,.int .i64 c.u] 62 #[nU e.key,nU e.val,nU e.hash];obtain⟨JN,JO,JQ,JR⟩:=hL.c4;obtain⟨e0,e1,e2⟩:=hE.c3;have hml:=hM.lt;have htl:=h.aR;have hgl:=h.aS;have lX:=h.below hB;have h8:=fun i hi=>h.wide.at_ (i:=i) hi;have aX:=qd (rH tb gb e.key e.hash T mb mt gY eY mo a0 l0 m c W lX hP h64 (hM.below hB) hmt gU (hT.below hB) hz);have HW:=qd hW;have HB:=qd hB;have bJ:=qd (fun ap fp fs hap V hV=>gV tb gb e.key e.hash T ap fp fs hap V hV);unfold iA at bJ;rw[hsk]at bJ aX;rw[hfr]at aX;simp only[Option.map_none,bT,fE,Option.getD_none,Option.isSome_none]at bJ aX;unfold bQ aI bN at aX;unfold bN aP at bJ;unfold bQ aI aP;clear hW hB h hM;go_in;go_upto_region 1 with fail;rw[←HW.out];go_wp2_with fail;refine(aX.out).mono ?_;rintro x w1 ⟨ap,fp,rfl,hap,hfp,hM1,hm1⟩;obtain rfl:=hfp i s rfl;go_upto_region 2 with fail;have hS2:=aj.new w1 207 #[pQ tb,nU e.key,nU e.hash,.pointer ap,.int .i64 (-1),.pointer (some ⟨gb,i*25,none⟩),nI s];have hb2:=(Below.refl w1.heap.size w1).alloc (Nat.le_refl _) (.cells #[pQ tb,nU e.key,nU e.hash,.pointer ap,.int .i64 (-1),.pointer (some ⟨gb,i*25,none⟩),nI s] 207);obtain⟨w2,hw2⟩:∃w2,w2=w1.alloc (.cells #[pQ tb,nU e.key,nU e.hash,.pointer ap,.int .i64 (-1),.pointer (some ⟨gb,i*25,none⟩),nI s] 207):=⟨_,rfl⟩;rw[←hw2]at hS2 hb2⊢;clear hw2;have jV:=(lX.mod hm1 (by simp;omega) (by simp;omega)).below hb2;have hM2:=hM1.below hb2
 have hE2:=(hE.mod hm1 (by simp;omega)).below hb2 (hE.mod hm1 (by simp;omega)).lt;have hm2:=((Mod.of_below HB.out [mb,tb,gb]).then (hm1.more (by simp))).then (Mod.of_below hb2 [mb,tb,gb]);obtain⟨sp0,sp1,sp2,sp3,sp4,sp5,sp6⟩:=hS2.c7;clear lX hM1 hm1 hE hb2;go_wp2_with fail;refine(bJ.out ap _ _ (fun _ _ hh=>by cases hh) w2 jV).mono ?_;rintro x w3 ⟨rfl,hb3⟩;have hb4:=bL ((Below.refl w3.heap.size w3).alloc (Nat.le_refl _) (.cells #[.int .u64 0,.int .u64 0,.int .u64 0] 62)) hb3;have Bw:=hS2.below hb4 hS2.lt;have hE4:=hE2.below hb4 hE2.lt;go_upto_region 5 with fail;obtain⟨w4,hw4⟩:∃w4,w4=w3.alloc (.cells #[.int .u64 0,.int .u64 0,.int .u64 0] 62):=⟨_,rfl⟩;rw[←hw4]at hb4 Bw hE4
 try rw[←hw4]
 clear hw4 hb3 hS2 hE2;have Cv:=y8 T.gs hP.pos e.key e.hash i s hfr
 have zM:s<8:=by have:=h8 i Cv.1;omega
 have jl:=qd (AA tb gb ap T i s e Cv.1 zM h64 Cv.2.2 hS hroom w4 (jV.below hb4));unfold bN aP at jl;have Eo:=qd (hM2.below hb4);have yD:=qd (hm2.then (Mod.of_below hb4 [mb,tb,gb]));clear jV hM2 hm2 hb4;obtain⟨sq0,sq1,sq2,sq3,sq4,sq5,sq6⟩:=Bw.c7;obtain⟨eq0,eq1,eq2⟩:=hE4.c3;go_wp2_with fail;refine(jl.out).mono ?_;rintro x w5 ⟨rfl,oG,dh⟩;have HT5:=qd oG;have HM6:=qd (Eo.out.mod dh (by simp;omega));have HM7:=qd (yD.out.then (dh.more (by simp)));clear oG dh;go_wp2;refine bodyPost_ret (v:= .tuple #[.bool true,.nilIface]) (by simp[results,Tryz.results284,go_sem]) rfl ⟨rfl,HT5.out,HM6.out,HM7.out⟩
theorem Cw (tb gb:Nat)(T:aC)(mb:Nat)(mt:TypeId)(gY eY:List Value)(mo:Nat)(a0 l0:bC)(m:Int)(c:bC)(key hash:Nat)(w:World)(h:TabAt w tb gb T)(hP:Pw T.gs.length)(h64:hash<18446744073709551616)(hM:Met w mb mt gY eY mo a0 l0 m)(hmt:mb≠tb)(gU:mb≠gb)(hT:gG w)(hz:16 ≠mb)(i s:Nat)(hsk:(aJ T.gs key hash).1=some (i,s))(e0:ay)(he0:aH T.gs i s= .full e0)(hS:Small T):
  Calls Tryz.prog 125 #[bQ tb,aI (some ⟨mb,mo,none⟩) c,nU key,nU hash] w fun x w'=>x= .returned (fE (some e0))∧TabAt w' tb gb (iP T i s)∧Met w' mb mt gY eY mo (eX a0 c (aJ T.gs key hash).2.2) (eX l0 c (aJ T.gs key hash).2.2) m∧Mod [mb,tb,gb] w w':=by
 obtain⟨W,hW,hB,hL,hR⟩:=kF w 147 #[.pointer (some ⟨mb,mo,none⟩),.int .i64 c.p,.int .i64 c.v,.int .i64 c.u] 62 #[.int .u64 0,.int .u64 0,.int .u64 0];have lc:=hL.c4;have hml:=hM.lt;have htl:=h.aR;have hgl:=h.aS;obtain⟨e1,he1,hk0,hil,hsl⟩:=uS hsk
 have zM:s<8:=by have:=h.wide.at_ hil;omega
 have HW:=qd hW;have bJ:=qd (fun ap fp fs hap V hV=>gV tb gb key hash T ap fp fs hap V hV);have aX:=qd (rH tb gb key hash T mb mt gY eY mo a0 l0 m c W (h.below hB) hP h64 (hM.below hB) hmt gU (hT.below hB) hz);unfold iA at bJ;obtain⟨fs,hfs⟩:∃fs,fs=bT (aJ T.gs key hash).2.1:=⟨_,rfl⟩;rw[hsk]at bJ aX;rw[←hfs]at aX;clear hfs;simp only[Option.map_some,he0,Slot.ent,bT,fE,Option.getD_some,Option.isSome_some]at bJ aX;unfold bN at aX;unfold bN aP at bJ;unfold bQ aI fE aP;simp only[Option.getD_some,Option.isSome_some];have HT:=qd (h.below hB);have HR:=qd (hR);have ah:=qd (Mod.of_below hB [mb,tb,gb]);clear hW hB h hM hL hR hT he1;go_in;go_upto_region 1 with fail;rw[←HW.out];go_wp2_with fail;refine(aX.out).mono ?_;rintro x w1 ⟨ap,fp,rfl,hap,hfp,hM1,hm⟩;clear lc;replace HT:=qM hm HT;replace HR:=qM hm HR;replace ah:=qU ah hm;clear hm;obtain rfl:=hap i s rfl;clear hap hfp;have HM:=qd (hM1);clear hM1;go_upto_region 2 with fail;have q1:=qJ HT.out.aR (qJ HT.out.aS (qJ HR.out.lt (qJ HM.out.lt ah.out.size)));refine dI 207 #[pQ tb,nU key,nU hash,.pointer (some ⟨gb,i*25,none⟩),nI s,.pointer fp,.int .i64 fs] ?_;rintro w2 ⟨hnew,hb⟩;replace HT:=qB hb HT;replace HR:=qB hb HR;replace HM:=qB hb HM;replace ah:=qT ah hb;have HS:=qd (hnew);clear hnew hb;have sp:=HS.out.c7;go_wp2_with fail;refine(bJ.out (some ⟨gb,i*25,none⟩) fp fs (fun i2 s2 hh=>by cases hh;rfl) w2 HT.out).mono ?_;rintro x w3 ⟨rfl,hb⟩;clear sp;replace HT:=qB hb HT;replace HR:=qB hb HR;replace HM:=qB hb HM;replace HS:=qB hb HS
 replace ah:=qT ah hb;clear hb;go_upto_region 3 with fail;have q6:=qJ HT.out.aR (qJ HT.out.aS (qJ HR.out.lt (qJ HM.out.lt (qJ HS.out.lt ah.out.size))));refine dI 62 #[nU e0.key,nU e0.val,nU e0.hash] ?_;rintro w4 ⟨hnew,hb⟩;replace HT:=qB hb HT;replace HR:=qB hb HR;replace HM:=qB hb HM;replace HS:=qB hb HS;replace ah:=qT ah hb;have HD:=qd (hnew);clear hnew hb;have sp:=HS.out.c7;have dc:=HD.out.c3;have Qj:=qd (Ew tb key hash gb fp fs T i s hil zM e0 he0 hS w4.drew (HT.out.below (Below.refl _ _).drew));refine rT (fun(w':World)=>w'.cell? ⟨w3.heap.size,0,none⟩=some (nU e0.key)∧w'.cell? ⟨w3.heap.size,1,none⟩=some (nU e0.val)∧w'.cell? ⟨w3.heap.size,2,none⟩=some (nU e0.hash)∧w'.cell? ⟨w1.heap.size,0,none⟩=some (pQ tb)∧w'.cell? ⟨w1.heap.size,1,none⟩=some (nU key)∧w'.cell? ⟨w1.heap.size,2,none⟩=some (nU hash)∧w'.cell? ⟨w1.heap.size,3,none⟩=some (.pointer (some ⟨gb,i*25,none⟩))∧w'.cell? ⟨w1.heap.size,4,none⟩=some (nI s)∧w'.cell? ⟨w1.heap.size,5,none⟩=some (.pointer fp)∧w'.cell? ⟨w1.heap.size,6,none⟩=some (.int .i64 fs)) [7] ?_;have hHeld:=(⟨dc.1,dc.2.1,dc.2.2,sp.1,sp.2.1,sp.2.2.1,sp.2.2.2.1,sp.2.2.2.2.1,sp.2.2.2.2.2.1,sp.2.2.2.2.2.2⟩:_∧_∧_∧_∧_∧_∧_∧_∧_∧_);refine vT 0 rfl ?_;refine vW 1 rfl ?_;refine vW 2 rfl ?_;refine vT 3 rfl ?_;refine nT 4 rfl fun K hK=> ?_;go_simp;refine(Qj.out).mono ?_;rintro x w5 ⟨rfl,oG,hm⟩;replace hm:Mod [tb,gb] w4 w5:=(Mod.drewN [tb,gb] w4 1).then hm;clear HT sp dc;replace HR:=qM hm HR;replace HM:=qM hm HM;replace HS:=qM hm HS;replace HD:=qM hm HD
 replace ah:=qU ah hm;have HT:=qd (oG);clear oG hm;have sp:=HS.out.c7;have dc:=HD.out.c3;have rc:=HR.out.c3;have rf:=HR.out.f3;go_simp;have hHeld:=(⟨dc.1,dc.2.1,dc.2.2,sp.1,sp.2.1,sp.2.2.1,sp.2.2.2.1,sp.2.2.2.2.1,sp.2.2.2.2.2.1,sp.2.2.2.2.2.2⟩:_∧_∧_∧_∧_∧_∧_∧_∧_∧_);refine kO hK ?_;clear hK K;refine vW 5 rfl ?_;refine vW 6 rfl ?_;refine nT 7 rfl fun K hK=> ?_;go_simp;refine kO hK ?_;clear hK K;refine vL 8 rfl ?_;refine aU (by kernel_rfl) ?_ _;clear HS HD;have q12:=qJ HR.out.lt (qJ HM.out.lt (qJ HT.out.aR HT.out.aS));have hnew:=(((HR.out.ak 0 (nU e0.key)).ak 1 (nU e0.val)).ak 2 (nU e0.hash));have hm:=((((Mod.refl [(w.heap.size+1)] w5).sl 0 (nU e0.key)).sl 1 (nU e0.val)).sl 2 (nU e0.hash));simp only[pt]at hnew;refine aZ (F:=fun v=>aj v (w.heap.size+1) 62 #[nU e0.key,nU e0.val,nU e0.hash]∧Mod [(w.heap.size+1)] w5 v) ⟨hnew,hm⟩ ?_;clear hnew hm;rintro w6 ⟨hnew,hm⟩;replace HM:=qM hm HM;replace HT:=qM hm HT;replace ah:=qU ah hm;replace HR:=qd hnew;clear hnew hm;have rc:=HR.out.c3;go_wp2;refine bodyPost_ret (v:= .tuple #[.agg #[nU e0.key,nU e0.val,nU e0.hash],.bool true]) (by simp[results,Tryz.results125,go_sem,rc.1,rc.2.1,rc.2.2]) rfl ⟨rfl,HT.out,HM.out,ah.out⟩
theorem Eb (tb gb:Nat)(T:aC)(mb:Nat)(mt:TypeId)(gY eY:List Value)(mo:Nat)(a0 l0:bC)(m:Int)(c:bC)(key hash:Nat)(w:World)(h:TabAt w tb gb T)(hP:Pw T.gs.length)(h64:hash<18446744073709551616)(hM:Met w mb mt gY eY mo a0 l0 m)(hmt:mb≠tb)(gU:mb≠gb)(hT:gG w)(hz:16 ≠mb)(hsk:(aJ T.gs key hash).1=none):
  Calls Tryz.prog 125 #[bQ tb,aI (some ⟨mb,mo,none⟩) c,nU key,nU hash] w fun x w'=>x= .returned (fE none)∧TabAt w' tb gb T∧Met w' mb mt gY eY mo (eX a0 c (aJ T.gs key hash).2.2) (eX l0 c (aJ T.gs key hash).2.2) m∧Mod [mb] w w':=by
 obtain⟨W,hW,hB,hL,hR⟩:=kF w 147 #[.pointer (some ⟨mb,mo,none⟩),.int .i64 c.p,.int .i64 c.v,.int .i64 c.u] 62 #[.int .u64 0,.int .u64 0,.int .u64 0];have lc:=hL.c4;have hml:=hM.lt;have htl:=h.aR;have hgl:=h.aS;have HW:=qd hW;have bJ:=qd (fun ap fp fs hap V hV=>gV tb gb key hash T ap fp fs hap V hV);have aX:=qd (rH tb gb key hash T mb mt gY eY mo a0 l0 m c W (h.below hB) hP h64 (hM.below hB) hmt gU (hT.below hB) hz);unfold iA at bJ;obtain⟨fs,hfs⟩:∃fs,fs=bT (aJ T.gs key hash).2.1:=⟨_,rfl⟩;rw[hsk]at bJ aX;rw[←hfs]at aX;clear hfs;simp only[Option.map_none,Slot.ent,bT,fE,Option.getD_none,Option.isSome_none]at bJ aX;unfold bN at aX;unfold bN aP at bJ;unfold bQ aI fE aP;simp only[Option.getD_none,Option.isSome_none];have HT:=qd (h.below hB);have HR:=qd (hR);have ah:=qd (Mod.of_below hB [mb]);clear hW hB h hM hL hR hT;go_in;go_upto_region 1 with fail;rw[←HW.out];go_wp2_with fail;refine(aX.out).mono ?_;rintro x w1 ⟨ap,fp,rfl,hap,hfp,hM1,hm⟩;clear lc;replace HT:=qM hm HT;replace HR:=qM hm HR;replace ah:=qU ah hm;clear hm hap hfp;have HM:=qd (hM1);clear hM1;go_upto_region 2 with fail;have q1:=qJ HT.out.aR (qJ HT.out.aS (qJ HR.out.lt (qJ HM.out.lt ah.out.size)));refine dI 207 #[pQ tb,nU key,nU hash,.pointer ap,.int .i64 (-1),.pointer fp,.int .i64 fs] ?_;rintro w2 ⟨hnew,hb⟩;replace HT:=qB hb HT;replace HR:=qB hb HR;replace HM:=qB hb HM;replace ah:=qT ah hb;have HS:=qd (hnew);clear hnew hb;have sp:=HS.out.c7;go_wp2_with fail
 refine(bJ.out ap fp fs (fun i2 s2 hh=>by cases hh) w2 HT.out).mono ?_;rintro x w3 ⟨rfl,hb⟩;clear sp;replace HT:=qB hb HT;replace HR:=qB hb HR;replace HM:=qB hb HM;replace HS:=qB hb HS;replace ah:=qT ah hb;clear hb;go_upto_region 3 with fail;have q6:=qJ HT.out.aR (qJ HT.out.aS (qJ HR.out.lt (qJ HM.out.lt (qJ HS.out.lt ah.out.size))));refine dI 62 #[.int .u64 0,.int .u64 0,.int .u64 0] ?_;rintro w4 ⟨hnew,hb⟩;replace HT:=qB hb HT;replace HR:=qB hb HR;replace HM:=qB hb HM;replace HS:=qB hb HS;replace ah:=qT ah hb;have HD:=qd (hnew);clear hnew hb;have sp:=HS.out.c7;have dc:=HD.out.c3;have rc:=HR.out.c3;have rf:=HR.out.f3;refine rT (fun(w':World)=>w'.cell? ⟨w3.heap.size,0,none⟩=some (.int .u64 0)∧w'.cell? ⟨w3.heap.size,1,none⟩=some (.int .u64 0)∧w'.cell? ⟨w3.heap.size,2,none⟩=some (.int .u64 0)) [7] ?_;have hHeld:=(⟨dc.1,dc.2.1,dc.2.2⟩:_∧_∧_);refine vT 0 rfl ?_;refine vW 1 rfl ?_;refine vW 2 rfl ?_;refine vU 3 rfl ?_;refine vU 4 rfl ?_;refine vU 5 rfl ?_;refine vW 6 rfl ?_;refine nT 7 rfl fun K hK=> ?_;go_simp;refine kO hK ?_;clear hK K;refine vL 8 rfl ?_;refine aU (by kernel_rfl) ?_ _;clear HS HD;have q12:=qJ HT.out.aR (qJ HT.out.aS (qJ HR.out.lt HM.out.lt));have hnew:=(((HR.out.ak 0 (.int .u64 0)).ak 1 (.int .u64 0)).ak 2 (.int .u64 0)).drew;have hm:=(((((Mod.refl [(w.heap.size+1)] w4).sl 0 (.int .u64 0)).sl 1 (.int .u64 0)).sl 2 (.int .u64 0)).then (Mod.drewN [(w.heap.size+1)] _ 1));simp only[pt]at hnew
 refine aZ (F:=fun v=>aj v (w.heap.size+1) 62 #[.int .u64 0,.int .u64 0,.int .u64 0]∧Mod [(w.heap.size+1)] w4 v) ⟨hnew,hm⟩ ?_;clear hnew hm;rintro w6 ⟨hnew,hm⟩;replace HT:=qM hm HT;replace HM:=qM hm HM;replace ah:=qU ah hm;replace HR:=qd hnew;clear hnew hm;have rc:=HR.out.c3;go_wp2;refine bodyPost_ret (v:= .tuple #[.agg #[.int .u64 0,.int .u64 0,.int .u64 0],.bool false]) (by simp[results,Tryz.results125,go_sem,rc.1,rc.2.1,rc.2.2]) rfl ⟨rfl,HT.out,HM.out,ah.out⟩
theorem GV (tb gb:Nat)(T:aC)(mb:Nat)(mt:TypeId)(gY eY:List Value)(mo:Nat)(a0 l0:bC)(m:Int)(c:bC)(i:Nat)(hi:i<T.gs.length)(w:World)(h:TabAt w tb gb T)(hM:Met w mb mt gY eY mo a0 l0 m)(hmt:mb≠tb)(gU:mb≠gb):
  Calls Tryz.prog 290 #[bQ tb,aI (some ⟨mb,mo,none⟩) c,nI i] w fun x w'=>x= .returned (.tuple #[bE ⟨gb,i*25,none⟩,.bool true])∧Met w' mb mt gY eY mo (ji a0 c) (ji l0 c) m∧Mod [mb] w w':=by
 obtain⟨W,hW,hB,hL,hR⟩:=kF w 147 #[.pointer (some ⟨mb,mo,none⟩),.int .i64 c.p,.int .i64 c.v,.int .i64 c.u] 196 #[.pointer none];have lc:=hL.c4;have JX:=hR.cell 0;simp only[List.getElem?_toArray,List.getElem?_cons_zero]at JX;have hml:=hM.lt;have htl:=h.aR;have hgl:=h.aS;have HW:=qd hW
 have hi':(i:Int)<(T.gs.length:Int):=by omega
 have hi0:¬((i:Int)<0):=by omega
 have hi2:(0:Int)≤(i:Int):=by omega
 have sQ:=qd (wo ⟨gb,i*25,none⟩ mb mt gY eY mo a0 l0 m c W.drew (hM.below (hB.trans ((Below.refl _ _).drew.mono hB.size))));obtain⟨sS,ZI,ZJ⟩:=(h.below hB).cells;unfold aI at sQ;unfold bQ aI bE;have HT:=qd (h.below hB);have HR:=qd (hR);have ah:=qd (Mod.of_below hB [mb]);clear hW hB h hM hL hR;go_in;go_upto_region 1 with fail;rw[←HW.out];go_upto_region 3 with fail;refine rT (fun(w':World)=>w'.cell? ⟨tb,0,none⟩=some (.slice (some ⟨gb,0,none⟩) T.gs.length T.gs.length)∧w'.cell? ⟨w.heap.size,0,none⟩=some (.pointer (some ⟨mb,mo,none⟩))∧w'.cell? ⟨w.heap.size,1,none⟩=some (.int .i64 c.p)∧w'.cell? ⟨w.heap.size,2,none⟩=some (.int .i64 c.v)∧w'.cell? ⟨w.heap.size,3,none⟩=some (.int .i64 c.u)) [7,8] ?_;have hHeld:=(⟨sS,lc.1,lc.2.1,lc.2.2.1,lc.2.2.2⟩:_∧_∧_∧_∧_);refine vW 0 rfl ?_;refine vW 1 rfl ?_;refine vW 2 rfl ?_;refine vT 3 rfl ?_;refine vW 4 rfl ?_;refine vW 5 rfl ?_;refine vT 6 rfl ?_;refine nT 7 rfl fun K hK=> ?_;go_simp;refine(sQ.out).mono ?_;rintro x w1 ⟨rfl,hM1,hm⟩;replace hm:Mod [mb] W w1:=(Mod.drewN [mb] W 1).then hm;clear lc JX;replace HT:=qM hm HT;replace HR:=qM hm HR;replace ah:=qU ah hm;have HM:=qd (hM1);clear hM1 hm;unfold bE;have JX:=HR.out.cell 0;simp only[List.getElem?_toArray,List.getElem?_cons_zero]at JX;have rf0:=HR.out.frozen 0;have n0:=HT.out.cells.1;go_simp;refine kO hK ?_;clear hK K;refine nT 8 rfl fun K hK=> ?_;go_simp;refine kO hK ?_;clear hK K;refine vL 9 rfl ?_;refine aU (by kernel_rfl) ?_ _;have q1:=qJ HT.out.aR (qJ HT.out.aS (qJ HR.out.lt HM.out.lt))
 have hnew:=(HR.out.ak 0 (.pointer (some ⟨gb,i*25,none⟩)));have hm:=((Mod.refl [(w.heap.size+1)] w1).sl 0 (.pointer (some ⟨gb,i*25,none⟩)));simp only[pt]at hnew;refine aZ (F:=fun v=>aj v (w.heap.size+1) 196 #[.pointer (some ⟨gb,i*25,none⟩)]∧Mod [(w.heap.size+1)] w1 v) ⟨hnew,hm⟩ ?_;clear hnew hm;rintro w2 ⟨hnew,hm⟩;clear JX rf0;replace HT:=qM hm HT;replace HM:=qM hm HM;replace ah:=qU ah hm;replace HR:=qd hnew;clear hnew hm;have JX:=HR.out.cell 0;simp only[List.getElem?_toArray,List.getElem?_cons_zero]at JX;go_wp2;refine bodyPost_ret (v:= .tuple #[.agg #[.pointer (some ⟨gb,i*25,none⟩)],.bool true]) (by simp[results,Tryz.results290,go_sem,JX]) rfl ⟨rfl,HM.out,ah.out⟩
theorem K8 (tb gb:Nat)(T:aC)(mb:Nat)(mt:TypeId)(gY eY:List Value)(mo:Nat)(a0 l0:bC)(m:Int)(c:bC)(i:Nat)(hi:i<T.gs.length)(w:World)(h:TabAt w tb gb T)(hM:Met w mb mt gY eY mo a0 l0 m)(hmt:mb≠tb)(gU:mb≠gb):
  Calls Tryz.prog 285 #[bQ tb,aI (some ⟨mb,mo,none⟩) c,nI i] w fun x w'=>x= .returned .nilIface∧TabAt w' tb gb {T with gs:=T.gs.set i (List.replicate 8 .empty)}∧Met w' mb mt gY eY mo (ji a0 c) (ji l0 c) m∧Mod [mb,tb,gb] w w':=by
 have hB:=(Below.refl w.heap.size w).alloc (Nat.le_refl _) (.cells #[.pointer (some ⟨mb,mo,none⟩),.int .i64 c.p,.int .i64 c.v,.int .i64 c.u] 147);have hL:=aj.new w 147 #[.pointer (some ⟨mb,mo,none⟩),.int .i64 c.p,.int .i64 c.v,.int .i64 c.u];obtain⟨W,hW⟩:∃W,W=w.alloc (.cells #[.pointer (some ⟨mb,mo,none⟩),.int .i64 c.p,.int .i64 c.v,.int .i64 c.u] 147):=⟨_,rfl⟩;rw[←hW]at hB hL;obtain⟨JN,JO,JQ,JR⟩:=hL.c4;have hml:=hM.lt;have htl:=h.aR;have hgl:=h.aS;have HW:=qd hW;have sQ:=qd (GV tb gb T mb mt gY eY mo a0 l0 m c i hi W (h.below hB) (hM.below hB) hmt gU);unfold bQ aI bE at sQ;unfold bQ aI;have HT:=qd (h.below hB);have ah:=qd (Mod.of_below hB [mb,tb,gb]);clear hW hB h hM hL;go_in;go_upto_region 1 with fail;rw[←HW.out];go_wp2_with fail;refine(sQ.out).mono ?_;rintro x w1 ⟨rfl,hM1,hm⟩;clear JN JO JQ JR;replace HT:=qM hm HT;replace ah:=qU ah hm;clear hm;have HM:=qd (hM1);clear hM1;go_upto_region 4 with fail;have q1:=qJ HT.out.aR (qJ HT.out.aS (qJ HM.out.lt ah.out.size));refine dI 196 #[.pointer (some ⟨gb,i*25,none⟩)] ?_;rintro w2 ⟨hnew,hb⟩;replace HT:=qB hb HT;replace HM:=qB hb HM;replace ah:=qT ah hb;have HV:=qd (hnew);clear hnew hb;have zN:=HV.out.cell 0;simp only[List.getElem?_toArray,List.getElem?_cons_zero]at zN;have yE:=qd (JL gb 200 _ _ (i*25) _ w2 (HT.out.group i hi));unfold bE at yE;go_wp2_with fail;refine(yE.out).mono ?_;rintro x w3 ⟨rfl,hG3,hm⟩;have Bu:=HT.out.oF i hi hm hG3;clear HT hG3 HV zN
 replace HM:=qM hm HM;replace ah:=qU ah hm;have HT:=qd (Bu);clear hm Bu;go_wp2;go_ret;exact⟨rfl,HT.out,HM.out,ah.out⟩
section
variable {T : aC} {i s : Nat}
structure lZ (T:aC):Prop where
 wide:ql T.gs
 pow:Pw T.gs.length
 live:T.live=((aM T.gs).length:Int)
 cK:T.cK=(eZ T.gs:Int)
theorem lZ.small (h:lZ T):Small T:=by
 have h1:=TF h.wide;have h2:=h.pow.le;exact⟨by rw[h.live];omega,by rw[h.live];omega,by rw[h.cK];omega,by rw[h.cK];omega,h2⟩
theorem lZ.put (h:lZ T)(hi:i<T.gs.length)(hs:s<(T.gs.getD i []).length)(x:Slot){l t:Int}(hl:l=T.live+x.ents.length-(aH T.gs i s).ents.length)(ht:t=T.cK+x.kN-(aH T.gs i s).kN):lZ ⟨putAt T.gs i s x,l,t⟩:=by
 have h1:=(Ca hi hs x).length_eq;have h2:=wm hi hs x;rw[List.length_append,List.length_append]at h1;have h3:=h.live;have h4:=h.cK;exact⟨h.wide.put _ _ _,by show Pw (putAt _ _ _ _).length;rw[iw];exact h.pow,by show l=((aM (putAt T.gs i s x)).length:Int);omega,by show t=(eZ (putAt T.gs i s x):Int);omega⟩
theorem lZ.erase (h:lZ T){e:ay}(he:aH T.gs i s= .full e):lZ (iP T i s):=by
 obtain⟨hi,hs⟩:=kg (gs:=T.gs) (i:=i) (s:=s) (by rw[he];exact fun h=>by cases h);unfold iP
 cases ho:dL (T.gs.getD i [])with
 |true=>exact h.put hi hs _ (by rw[he];simp[Slot.ents]<;>omega) (by rw[he];simp[Slot.kN,Slot.iO]<;>omega)
 |false=>exact h.put hi hs _ (by rw[he];simp[Slot.ents]<;>omega) (by rw[he];simp[Slot.kN,Slot.iO]<;>omega)
theorem lZ.place (h:lZ T)(hi:i<T.gs.length)(hs:s<(T.gs.getD i []).length)(he:(aH T.gs i s).isFull=false)(e:ay):lZ (jE T i s e):=by
 unfold jE
 cases hx:aH T.gs i s with
 |full y=>rw[hx]at he;cases he
 |empty=>exact h.put hi hs _ (by rw[hx];simp[Slot.ents]<;>omega) (by rw[hx];simp[Slot.kN,Slot.iO]<;>omega)
 |pO=>exact h.put hi hs _ (by rw[hx];simp[Slot.ents]<;>omega) (by rw[hx];simp[Slot.kN,Slot.iO]<;>omega)
theorem lZ.replace (h:lZ T){v:Nat}{e:ay}(he:aH T.gs i s= .full e):lZ (replaceM T i s v e):=by
 obtain⟨hi,hs⟩:=kg (gs:=T.gs) (i:=i) (s:=s) (by rw[he];exact fun h=>by cases h);exact h.put hi hs _ (by rw[he];simp[Slot.ents]<;>omega) (by rw[he];simp[Slot.kN,Slot.iO]<;>omega)
def gJ (T:aC)(i s:Nat):aC:=if(aH T.gs i s).isFull then iP T i s else T
def takeN (T:aC)(i:Nat):Nat→aC
 |0=>T
 |k+1=>gJ (takeN T i k) i k
theorem lZ.adO (h:lZ T)(i s:Nat):lZ (gJ T i s):=by
 unfold gJ
 cases hx:aH T.gs i s with
 |full e=>rw[if_pos (by rfl)];exact h.erase hx
 |empty=>rw[if_neg (by simp[Slot.isFull])];exact h
 |pO=>rw[if_neg (by simp[Slot.isFull])];exact h
theorem lZ.tkN (h:lZ T)(i:Nat):∀k,lZ (takeN T i k)
 |0=>h
 |k+1=>(h.tkN i k).adO i k
theorem Bz (T:aC)(i s:Nat):(iP T i s).gs.length=T.gs.length:=iw _ _ _ _
theorem rJ (T:aC)(i:Nat):∀k,(takeN T i k).gs.length=T.gs.length
 |0=>rfl
 |k+1=>by
  show(gJ _ _ _).gs.length=_;unfold gJ;split
  ·rw[Bz,rJ T i k]
  ·exact rJ T i k
theorem aaP {w w':World}{S:List Nat}{base:Nat}{e:TypeId}{size n:Nat}{v:Value}{xs:List Value}(h:w.ownsRow base e size v n xs)(hm:Mod S w w')(hS:∀k,k∈S→k<base):w'.ownsRow base e size v n xs:=by
 refine⟨h.1, ?_⟩;rcases h.2 with hn|⟨g,cap,cur,hv,hb,hg,rest⟩
 ·exact .inl hn
 ·exact .inr ⟨g,cap,cur,hv,hb,(hm.block g (Array.getElem?_eq_some_iff.1 hg).1 (fun hh=>absurd (hS g hh) (by omega))).trans hg,rest⟩
instance {w w':World}{base:Nat}{e:TypeId}{size n:Nat}{v:Value}{xs:List Value}:Md (w.ownsRow base e size v n xs) w w' (w'.ownsRow base e size v n xs) (fun S=>∀k,k∈S→k<base):=⟨fun h hm hs=>aaP h hm hs⟩
end
section
structure uH (E:Nat→Addr)(w:World):Prop where
 of:∀k,k=1∨k=2∨k=5→bX E w k
theorem uH.at_ {E:Nat→Addr}{w:World}(h:uH E w)(k:Nat)(_:1≤k)(_:k≤16)(hk:k=1∨k=2∨k=5:=by decide):bX E w k:=h.of k hk
theorem uH.below {E:Nat→Addr}{w w':World}{B:Nat}(h:uH E w)(hb:Below B w w')(hB:w.heap.size≤B):uH E w':=⟨fun k hk=>(h.of k hk).below hb hB⟩
theorem eB.core {E:Nat→Addr}{w:World}(h:eB E w):uH E w:=⟨fun k hk=>h.at_ k (by omega) (by omega)⟩
structure Env (W0:World)(E:Nat→Addr)(w:World):Prop where
 below:Below W0.heap.size W0 w
 ZK:uH E W0
 tz0:gG W0
section
variable {W0 w w' : World} {E : Nat → Addr}
theorem Env.size (h:Env W0 E w):W0.heap.size≤w.heap.size:=h.below.size
theorem Env.errs (h:Env W0 E w):uH E w:=h.ZK.below h.below (Nat.le_refl _)
theorem Env.tz (h:Env W0 E w):gG w:=h.tz0.below h.below
theorem Env.MO (h:Env W0 E w):16 <W0.heap.size:=World.block_lt_of_cell? W0 _ (h.tz0 0 (by omega))
theorem Env.mod {S:List Nat}(h:Env W0 E w)(hm:Mod S w w')(hS:∀k,k∈S→W0.heap.size≤k):Env W0 E w':=⟨h.below.trans (hm.below hS h.size),h.ZK,h.tz0⟩
instance {w w':World}{W0:World}{E:Nat→Addr}:Md (Env W0 E w) w w' (Env W0 E w') (fun S=>∀k,k∈S→W0.heap.size≤k):=⟨fun h hm hs=>h.mod hm hs⟩
theorem Env.next (h:Env W0 E w)(hb:Below w.heap.size w w'):Env W0 E w':=h.mod (Mod.of_below hb []) (by simp)
end
structure MP where
 mb:Nat
 mt:TypeId
 pre:List Value
 post:List Value
 mo:Nat
 m:Int
structure bP where
 all:bC
 last:bC
def bP.add (x:bP)(c:bC)(n:Nat):bP:=⟨eX x.all c n,eX x.last c n⟩
theorem Cx (a c:bC)(k:Nat):∀n,eX (eX a c k) c n=eX a c (k+n)
 |0=>rfl
 |n+1=>by
  show ji (eX (eX a c k) c n) c=ji (eX a c (k+n)) c;rw[Cx a c k n]
theorem bP.add_add (x:bP)(c:bC)(k n:Nat):(x.add c k).add c n=x.add c (k+n):=by unfold bP.add;rw[Cx,Cx]
def aN (w:World)(P:MP)(x:bP):Prop:=Met w P.mb P.mt P.pre P.post P.mo x.all x.last P.m
def MP.addr (P:MP):Addr:=⟨P.mb,P.mo,none⟩
section
variable {w w' : World} {P : MP} {x : bP}
theorem aN.lt (h:aN w P x):P.mb<w.heap.size:=Met.lt h
theorem aN.mod {S:List Nat}(h:aN w P x)(hm:Mod S w w')(hg:P.mb∉S):aN w' P x:=Met.mod h hm hg
instance {w w':World}{P:MP}{x:bP}:Md (aN w P x) w w' (aN w' P x) (fun S=>P.mb∉S):=⟨fun h hm hs=>aN.mod h hm hs⟩
theorem aN.below (h:aN w P x)(hb:Below w.heap.size w w'):aN w' P x:=Met.below h hb
end
end
theorem AB {z:Array Value}{v:Value}{k:Nat}(hz:z=(List.replicate k v).toArray)(hk:0<k)(n:Nat):madeCells z n=(List.replicate n v).toArray:=by
 apply Array.toList_inj.1;subst hz;unfold madeCells;rw[Array.toList_map];refine List.ext_getElem (by simp) fun i h1 h2=> ?_;simp only[List.getElem_map,List.getElem_replicate];rw[getElem!_pos _ _ (by simp;exact Nat.mod_lt _ hk)];simp
def AJ:kP:=List.replicate 8 (.full ⟨0,0,0⟩)
theorem RG:xg AJ=List.replicate 25 (.int .u64 0):=by rfl
theorem Cy:∀n,dB (List.replicate n AJ)=List.replicate (n*25) (.int .u64 0)
 |0=>rfl
 |n+1=>by
  show xg AJ++dB (List.replicate n AJ)=_;rw[Cy n,RG,Nat.add_mul,Nat.add_comm,List.replicate_append_replicate]
def afa:Value:= .agg #[.int .u64 0,.agg (Array.replicate 8 (.agg #[.int .u64 0,.int .u64 0,.int .u64 0]))]
theorem XE:(Tryz.prog.info? 200).map (fun i=>(i.zero.map fun z=>z.cells,i.size,i.bytes))=some (some (List.replicate 25 (Value.int .u64 0)).toArray,25,200):=by kernel_rfl
theorem Ph (n:Nat)(hn:n≤64)(W:World):(Instr.makeSlice 191 (nI n) (nI n)).run Tryz.prog W= .ok (.slice (some ⟨W.heap.size,0,none⟩) n n) (W.alloc (.cells (dB (List.replicate n AJ)).toArray 200)):=by
 have h:=XE
 cases hi:Tryz.prog.info? 200 with
 |none=>rw[hi]at h;cases h
 |some i=>
  rw[hi]at h;simp only[Option.map_some,Option.some.injEq,Prod.mk.injEq,Option.map_eq_some_iff]at h;obtain⟨⟨z,hz,hc⟩,hs,hb⟩:=h;have:=run_makeSlice (P:=Tryz.prog) (w:=W) 191 200 i z Tryz.underlying191 hi hz .i64 .i64 (n:Int) (n:Int) (by omega) (Int.le_refl _) (by rw[hs];omega) (by rw[hb];omega) (by omega);rw[this,hs,Int.toNat_natCast,AB hc (by omega),Cy]
theorem pq (n:Nat)(hn:Pw n)(w:World):Calls Tryz.prog 140 #[nI n] w fun e w'=>e= .returned (.bool true)∧w=w':=by
 rcases hn with rfl|rfl|rfl|rfl|rfl|rfl|rfl
 all_goals
  go_in;go_wp2;go_ret;exact⟨rfl,rfl⟩
def RH (n:Nat):aC:=⟨List.replicate n AJ,0,0⟩
theorem JY (n:Nat)(hn:Pw n)(w:World):
  Calls Tryz.prog 104 #[nI n] w fun e w'=>e= .returned (.tuple #[bQ (w.heap.size+1),.nilIface])∧TabAt w' (w.heap.size+1) w.heap.size (RH n)∧Below w.heap.size w w':=by
 have HR:=qd (pq n hn w);have hle:=hn.le;have hpos:=hn.pos;have hmk:=Ph n hle w;unfold bQ;go_in;go_wp2_with fail;refine(HR.out).mono ?_;rintro x w1 ⟨rfl,rfl⟩;go_wp2;refine bodyPost_ret (v:= .tuple #[.pointer (some ⟨w.heap.size+1,0,none⟩),.nilIface]) (by simp[results,Tryz.results104,go_sem]) rfl ⟨rfl,⟨fun G hG=> ?_, ?_, ?_,by omega⟩, ?_⟩
 ·rw[(List.mem_replicate.1 hG).2];rfl
 ·have:=aj.new (w.alloc (.cells (dB (List.replicate n AJ)).toArray 200)) 193 #[.slice (some ⟨w.heap.size,0,none⟩) n n,.int .i64 0,.int .i64 0];rw[World.size_alloc]at this;simpa[RH]using this
 ·exact(aj.new w 200 (dB (List.replicate n AJ)).toArray).alloc _
 ·exact((Below.refl _ _).alloc (Nat.le_refl _) _).alloc (by simp) _
def MQ:kP:=List.replicate 8 .empty
def qh (n k:Nat):Tab:=List.replicate k MQ++List.replicate (n-k) AJ
theorem yF (n:Nat):qh n n=bare n:=by unfold qh;rw[Nat.sub_self];simp[bare,MQ]
theorem oH {n k:Nat}(h:k≤n):(qh n k).length=n:=by simp[qh];omega
theorem JZ {n k:Nat}(h:k<n):(qh n k).set k MQ=qh n (k+1):=by
 unfold qh;rw[List.set_append_right _ _ (by simp),List.length_replicate,Nat.sub_self,show n-k=(n-(k+1))+1 by omega,List.replicate_succ,List.set_cons_zero,List.replicate_succ',List.append_assoc];rfl
def dX (n k:Nat):aC:=⟨qh n k,0,0⟩
theorem aaQ {n:Nat}(hn:Pw n):lZ (dX n n):=by
 have h:=(Me hn);refine⟨?_, ?_, ?_, ?_⟩
 ·show ql (qh n n);rw[yF];exact h.wide
 ·show Pw (qh n n).length;rw[oH (Nat.le_refl _)];exact hn
 ·show(0:Int)=((aM (qh n n)).length:Int);rw[yF]
  have:aM (bare n)=[]:=List.eq_nil_iff_forall_not_mem.2 fun e he=>by obtain⟨i,s,hh⟩:=qC.1 he;rw[yZ]at hh;cases hh
  rw[this];rfl
 ·show(0:Int)=(eZ (qh n n):Int);rw[yF]
  have:∀n,eZ (bare n)=0:=fun n=>by
   induction n with
   |zero=>rfl
   |succ k ih=>show eZ (List.replicate 8 Slot.empty::bare k)=0;rw[yY,ih];rfl
  rw[this];rfl
theorem Un (n:Nat)(hn:Pw n)(w:World):
  Calls Tryz.prog 79 #[nI n] w fun e w'=>∃tb gb,w.heap.size≤tb∧w.heap.size≤gb∧e= .returned (.tuple #[bQ tb,.nilIface])∧TabAt w' tb gb (dX n n)∧Below w.heap.size w w':=by
 have hle:=hn.le;have hpos:=hn.pos;have XF:=qd (JY n hn w);unfold bQ at XF⊢;go_in;go_upto_region 1 with fail;go_wp2_with fail;refine(XF.out).mono ?_;rintro x w1 ⟨rfl,hT1,hb1⟩;obtain⟨tb,htb⟩:∃tb,tb=w.heap.size+1:=⟨_,rfl⟩;obtain⟨gb,hgb⟩:∃gb,gb=w.heap.size:=⟨_,rfl⟩;rw[←htb]at hT1⊢;rw[←hgb]at hT1
 replace htb:w.heap.size≤tb:=by omega
 replace hgb:w.heap.size≤gb:=by omega
 clear XF;obtain⟨c0,c1,c2⟩:=hT1.cells
 have hln:(RH n).gs.length=n:=by simp[RH]
 rw[hln]at c0;have HT:=qd (show TabAt w1 tb gb (dX n 0)from hT1);have ah:=qd hb1;clear hT1 hb1 hln;go_wp2;go_loopw [6,20] (fun _ i wr=>∃k:Nat,k≤n∧i= .int .i64 k∧TabAt wr tb gb (dX n k)∧Below w.heap.size w wr) (fun _ i _=>n-(intOf i).toNat)
 case atStart=>exact⟨0,by omega,rfl,HT.out,ah.out⟩
 case round=>
  clear HT ah c0 c1 c2;obtain⟨k,hk,rfl,hT,hm⟩:=hrel;by_cases hlt:k<n
  ·have hlt':(k:Int)<(n:Int):=by omega
   have hk0:(0:Int)≤(k:Int):=by omega
   obtain⟨c0,c1,c2⟩:=hT.cells;have hln:(dX n k).gs.length=n:=oH hk;rw[hln]at c0;have htl:=hT.aR;have hgl:=hT.aS;have sQ:=qd (IV ⟨gb,k*25,none⟩ ⟨0,0,0⟩ wr);have HG:=qd (hT.group k (by rw[hln];exact hlt));have HT:=qd hT;have Hm:=qd hm;have HS:=qd (JZ hlt);unfold aI bE at sQ;clear hT hm hln;go_wp2_with fail;refine(sQ.out).mono ?_;rintro x w2 ⟨rfl,hb2⟩;have yE:=qd (JL gb 200 _ _ (k*25) _ w2 (HG.out.below hb2));have HT2:=qd (HT.out.below hb2);have Uo:=qd (Hm.out.trans (hb2.mono Hm.out.size));unfold bE at yE;clear hb2 HT Hm HG sQ;go_wp2_with fail;refine(yE.out).mono ?_;rintro x w3 ⟨rfl,hG3,gy⟩;have HT3:=qd (HT2.out.oF k (by rw[show(dX n k).gs.length=n from oH hk];exact hlt) gy hG3);have Hm3:=qd (Uo.out.trans (gy.below (B:=w.heap.size) (by intro j hj;simp at hj;omega) Uo.out.size));clear HT2 Uo hG3 gy;go_wp2;go_roundw
   case rel=>exact⟨k+1,by omega,by go_num,by have:=HT3.out;unfold dX at this⊢;rw[←HS.out];exact this,Hm3.out⟩
   case measure=>simp[intOf];omega
  ·obtain rfl:k=n:=by omega
   have hlt':¬(k:Int)<(k:Int):=by omega
   go_wp2;refine bodyPost_ret (v:= .tuple #[pQ tb,.nilIface]) (by simp[results,Tryz.results79,go_sem]) rfl (by first|exact⟨tb,gb,htb,hgb,rfl,hT,hm⟩|exact⟨tb,htb,gb,hgb,rfl,hT,hm⟩)
end Go.Proofs.YtkkibocdfijnhaaGreatDoor
