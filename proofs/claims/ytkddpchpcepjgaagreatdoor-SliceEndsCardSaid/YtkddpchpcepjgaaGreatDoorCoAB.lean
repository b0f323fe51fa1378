/- A table's Find, Put, Delete by their contracts. -/
import Derived.Test.YtkddpchpcepjgaaGreatDoorTabT
namespace Go.Proofs.YtkddpchpcepjgaaGreatDoor
set_option maxRecDepth 100000
set_option maxHeartbeats 4000000
open Go.RowKit cu Go
theorem zj:type_of% @List.mem_singleton:=@List.mem_singleton
theorem ZZ:type_of% @IntKind.wrap_i64:=@IntKind.wrap_i64
theorem qa:type_of% @List.nodup_cons:=@List.nodup_cons
theorem qu:type_of% @List.mem_cons_of_mem:=@List.mem_cons_of_mem
theorem yq:type_of% @List.nodup_append:=@List.nodup_append
theorem Ys:type_of% @Option.getD_some:=@Option.getD_some
theorem jp:type_of% @Option.isSome_none:=@Option.isSome_none
theorem Jn:type_of% @Option.isSome_some:=@Option.isSome_some
theorem kh:type_of% @List.mem_of_find?_eq_some:=@List.mem_of_find?_eq_some
theorem kl:type_of% @Option.getD_none:=@Option.getD_none
theorem ve:type_of% @Nat.sub_self:=@Nat.sub_self
theorem vj:type_of% @Option.map_none:=@Option.map_none
theorem vA:type_of% @Option.map_some:=@Option.map_some
theorem Vc:type_of% @List.find?_some:=@List.find?_some
theorem aY {p F:World->Prop}{w:World}(h:F w)(h2:∀v,F v->p v):p w:=h2 w h
theorem gW.below {w w':World}(h:gW w)(hb:Below w.heap.size w w'):gW w':=λi hi=>aA hb (h i hi)
theorem gW.mod {S:List Nat}{w w':World}(h:gW w)(hm:Mod S w w')(hs:16 ∉S):gW w':=λi hi=>
 (hm.cell_ (p:=⟨16,qD i,none⟩) (qt w _ (h i hi)) hs).trans (h i hi)
def iQ (gs:Tab)(key hash:Nat):Option ay:=(aJ gs key hash).1.map λx=>(aH gs x.1 x.2).ent
def fP (o:Option ay):Value:= .tuple #[aP (o.getD ⟨0,0,0⟩),.bool o.isSome]
theorem iF (tb gb key hash:Nat)(T:aC)(ap fp:Option Addr)(fs:Int)(hap:iY gb (aJ T.gs key hash).1 ap)(w:World)(h:TabAt w tb gb T):
  Calls Tryz.prog 121 #[bP tb key hash ap (bW (aJ T.gs key hash).1) fp fs] w λx w'=>x= .returned (fP (iQ T.gs key hash))/\Below w.heap.size w w':=by
 unfold iQ fP
 cases hs:(aJ T.gs key hash).1 with
 |none=>exact Jl tb key hash ap fp fs w
 |some x=>
  obtain⟨i,s⟩:=x;obtain⟨e,h1,_,h3,h4⟩:=wE hs;obtain rfl:=hap i s hs;have:=Jm tb key hash gb fp fs T i s h3 (by have:=h.wide.at_ h3;omega) e h1 w h;simpa[bW,h1,Slot.ent]using this
theorem UK (tb gb:Nat)(T:aC)(mb:Nat)(mt:TypeId)(iI fG:List Value)(mo:Nat)(a0 l0:bE)(m:Int)(c:bE)(key hash:Nat)(w:World)(h:TabAt w tb gb T)(hP:Pw T.gs.length)(h64:hash<18446744073709551616)(hM:Met w mb mt iI fG mo a0 l0 m)(hmt:mb≠tb)(iC:mb≠gb)(hT:gW w)(hz:16 ≠mb):
  Calls Tryz.prog 111 #[bT tb,aI (some ⟨mb,mo,none⟩) c,nU key,nU hash] w λx w'=>x= .returned (fP (iQ T.gs key hash))/\Met w' mb mt iI fG mo (fF a0 c (aJ T.gs key hash).2.2) (fF l0 c (aJ T.gs key hash).2.2) m/\Mod [mb] w w':=by
 obtain⟨W,hW,hB,hL,hD⟩:=lI w 153 #[.pointer (some ⟨mb,mo,none⟩),.int .i64 c.p,.int .i64 c.v,.int .i64 c.u] 67 #[.int .u64 0,.int .u64 0,.int .u64 0];obtain⟨LA,LB,LC,LD⟩:=hL.c4;have hml:=hM.lt;have ni:=h.below hB;have aX:=qd (tF tb gb key hash T mb mt iI fG mo a0 l0 m c W ni hP h64 (hM.below hB) hmt iC (hT.below hB) hz);have HW:=qd hW;have HB:=qd hB;have bI:=qd (λap fp fs hap V hV=>iF tb gb key hash T ap fp fs hap V hV);unfold bT aI bP at aX;unfold bP fP aP at bI;unfold bT aI fP aP;clear hW hB h hM;obtain⟨fe,hfe⟩:∃fe,fe=(iQ T.gs key hash).getD ⟨0,0,0⟩:=⟨_,rfl⟩;obtain⟨fb,nO⟩:∃fb,fb=(iQ T.gs key hash).isSome:=⟨_,rfl⟩;rw[<-hfe,<-nO]at bI|-;clear hfe nO;go_in;go_upto_region 1 with fail;rw[<-HW.o];go_wp2_with fail;refine(aX.o).mono ?_;rintro x w1 ⟨ap,fp,rfl,hap,hfp,hM1,hm1⟩;have Lm:=qd hM1;have hD1:=hD.mod hm1 (by simp;omega);have uN:=qd (bI.o ap fp (bW (aJ T.gs key hash).2.1) hap w1 (ni.mod hm1 (by simp;omega) (by simp;omega)));clear hM1 hap hfp hD ni;go_wp2_with fail;refine(uN.o).mono ?_;rintro x w2 ⟨rfl,hb2⟩;have hD2:=hD1.below hb2 hD1.lt;obtain⟨d0,d1,d2⟩:=hD2.c3;obtain⟨f0,f1,f2⟩:=hD2.f3;have hM2:=Lm.o.below hb2;have hm2:=((Mod.of_below HB.o [mb]).then hm1).then (Mod.of_below hb2 [mb]);have hlw:=hD1.lt;have gQ:=((hm2.ak (b:=w.heap.size+1) (.inr (by omega)) 0 (nU fe.key)).ak (b:=w.heap.size+1) (.inr (by omega)) 1 (nU fe.val)).ak (b:=w.heap.size+1) (.inr (by omega)) 2 (nU fe.hash)
 have hne:mb≠w.heap.size+1:=by omega
 have HP:=qd (And.intro (show Met _ mb mt iI fG mo _ _ m from⟨hM2.len,((hM2.blk.far (p:=⟨w.heap.size+1,0,none⟩) hne (nU fe.key)).far (p:=⟨w.heap.size+1,1,none⟩) hne (nU fe.val)).far (p:=⟨w.heap.size+1,2,none⟩) hne (nU fe.hash)⟩) gQ);clear hM2 hm2 gQ hb2 hm1 hD1 hD2;go_wp2;refine bodyPost_ret (v:= .tuple #[.agg #[nU fe.key,nU fe.val,nU fe.hash],.bool fb]) ?_ rfl ⟨rfl,HP.o.1,HP.o.2⟩;simp[results,Tryz.results111,go_sem,d0,d1,d2]
theorem Nr (tb gb:Nat)(T:aC)(mb:Nat)(mt:TypeId)(iI fG:List Value)(mo:Nat)(a0 l0:bE)(m:Int)(c:bE)(e:ay)(w:World)(h:TabAt w tb gb T)(hP:Pw T.gs.length)(h64:e.hash<18446744073709551616)(hM:Met w mb mt iI fG mo a0 l0 m)(hmt:mb≠tb)(iC:mb≠gb)(hT:gW w)(hz:16 ≠mb)(hsk:(aJ T.gs e.key e.hash).1=none)(i s:Nat)(hfr:(aJ T.gs e.key e.hash).2.1=some (i,s))(hS:Small T)(hroom:T.live+T.dh+1<=7*(T.gs.length:Int)):
  Calls Tryz.prog 284 #[bT tb,aI (some ⟨mb,mo,none⟩) c,aP e] w λx w'=>x= .returned (.tuple #[.bool true,.nilIface])/\TabAt w' tb gb (j4 T i s e)/\Met w' mb mt iI fG mo (fF a0 c (aJ T.gs e.key e.hash).2.2) (fF l0 c (aJ T.gs e.key e.hash).2.2) m/\Mod [mb,tb,gb] w w':=by
 obtain⟨W,hW,hB,hL,hE⟩:=lI w 153 #[.pointer (some ⟨mb,mo,none⟩),.int .i64 c.p,.int .i64 c.v,.int .i64 c.u] 67 #[nU e.key,nU e.val,nU e.hash];obtain⟨LA,LB,LC,LD⟩:=hL.c4;obtain⟨e0,e1,e2⟩:=hE.c3;have hml:=hM.lt;have htl:=h.aS;have hgl:=h.aT;have ni:=h.below hB;have h8:=λi hi=>h.wide.at_ (i:=i) hi;have aX:=qd (tF tb gb e.key e.hash T mb mt iI fG mo a0 l0 m c W ni hP h64 (hM.below hB) hmt iC (hT.below hB) hz);have HW:=qd hW;have HB:=qd hB;have bI:=qd (λap fp fs hap V hV=>iF tb gb e.key e.hash T ap fp fs hap V hV);unfold iQ at bI;rw[hsk]at bI aX;rw[hfr]at aX;simp only[vj,bW,fP,kl,jp]at bI aX;unfold bT aI bP at aX;unfold bP aP at bI;unfold bT aI aP;clear hW hB h hM;go_in;go_upto_region 1 with fail;rw[<-HW.o];go_wp2_with fail;refine(aX.o).mono ?_;rintro x w1 ⟨ap,fp,rfl,hap,hfp,hM1,hm1⟩;obtain rfl:=hfp i s rfl;go_upto_region 2 with fail;have hS2:=aj.new w1 222 #[pQ tb,nU e.key,nU e.hash,.pointer ap,.int .i64 (-1),.pointer (some ⟨gb,i*25,none⟩),nI s];have hb2:=(Below.refl w1.heap.size w1).alloc (zb _) (.cells #[pQ tb,nU e.key,nU e.hash,.pointer ap,.int .i64 (-1),.pointer (some ⟨gb,i*25,none⟩),nI s] 222);obtain⟨w2,hw2⟩:∃w2,w2=w1.alloc (.cells #[pQ tb,nU e.key,nU e.hash,.pointer ap,.int .i64 (-1),.pointer (some ⟨gb,i*25,none⟩),nI s] 222):=⟨_,rfl⟩;rw[<-hw2]at hS2 hb2|-;clear hw2;have kR:=(ni.mod hm1 (by simp;omega) (by simp;omega)).below hb2;have hM2:=hM1.below hb2
 have hE2:=(hE.mod hm1 (by simp;omega)).below hb2 (hE.mod hm1 (by simp;omega)).lt;have hm2:=((Mod.of_below HB.o [mb,tb,gb]).then (hm1.more (by simp))).then (Mod.of_below hb2 [mb,tb,gb]);obtain⟨sp0,sp1,sp2,sp3,sp4,sp5,sp6⟩:=hS2.c7;clear ni hM1 hm1 hE hb2;go_wp2_with fail;refine(bI.o ap _ _ (λ_ _ hh=>by cases hh) w2 kR).mono ?_;rintro x w3 ⟨rfl,hb3⟩;have hb4:=bN ((Below.refl w3.heap.size w3).alloc (zb _) (.cells #[.int .u64 0,.int .u64 0,.int .u64 0] 67)) hb3;have Da:=hS2.below hb4 hS2.lt;have hE4:=hE2.below hb4 hE2.lt;go_upto_region 5 with fail;obtain⟨w4,hw4⟩:∃w4,w4=w3.alloc (.cells #[.int .u64 0,.int .u64 0,.int .u64 0] 67):=⟨_,rfl⟩;rw[<-hw4]at hb4 Da hE4
 try rw[<-hw4]
 clear hw4 hb3 hS2 hE2;have D6:=Ak T.gs hP.pos e.key e.hash i s hfr
 have Bj:s<8:=by have:=h8 i D6.1;omega
 have jP:=qd (Ch tb gb ap T i s e D6.1 Bj h64 D6.2.2 hS hroom w4 (kR.below hb4));unfold bP aP at jP;have FY:=qd (hM2.below hb4);have oV:=qd (hm2.then (Mod.of_below hb4 [mb,tb,gb]));clear kR hM2 hm2 hb4;obtain⟨sq0,sq1,sq2,sq3,sq4,sq5,sq6⟩:=Da.c7;obtain⟨eq0,eq1,eq2⟩:=hE4.c3;go_wp2_with fail;refine(jP.o).mono ?_;rintro x w5 ⟨rfl,pV,dz⟩;have HT5:=qd pV;have HM6:=qd (FY.o.mod dz (by simp;omega));have HM7:=qd (oV.o.then (dz.more (by simp)));clear pV dz;go_wp2;refine bodyPost_ret (v:= .tuple #[.bool true,.nilIface]) (by simp[results,Tryz.results284,go_sem]) rfl ⟨rfl,HT5.o,HM6.o,HM7.o⟩
theorem D7 (tb gb:Nat)(T:aC)(mb:Nat)(mt:TypeId)(iI fG:List Value)(mo:Nat)(a0 l0:bE)(m:Int)(c:bE)(key hash:Nat)(w:World)(h:TabAt w tb gb T)(hP:Pw T.gs.length)(h64:hash<18446744073709551616)(hM:Met w mb mt iI fG mo a0 l0 m)(hmt:mb≠tb)(iC:mb≠gb)(hT:gW w)(hz:16 ≠mb)(i s:Nat)(hsk:(aJ T.gs key hash).1=some (i,s))(e0:ay)(he0:aH T.gs i s= .full e0)(hS:Small T):
  Calls Tryz.prog 137 #[bT tb,aI (some ⟨mb,mo,none⟩) c,nU key,nU hash] w λx w'=>x= .returned (fP (some e0))/\TabAt w' tb gb (jh T i s)/\Met w' mb mt iI fG mo (fF a0 c (aJ T.gs key hash).2.2) (fF l0 c (aJ T.gs key hash).2.2) m/\Mod [mb,tb,gb] w w':=by
 obtain⟨W,hW,hB,hL,hR⟩:=lI w 153 #[.pointer (some ⟨mb,mo,none⟩),.int .i64 c.p,.int .i64 c.v,.int .i64 c.u] 67 #[.int .u64 0,.int .u64 0,.int .u64 0];have lc:=hL.c4;have hml:=hM.lt;have htl:=h.aS;have hgl:=h.aT;obtain⟨e1,he1,hk0,hil,hsl⟩:=wE hsk
 have Bj:s<8:=by have:=h.wide.at_ hil;omega
 have HW:=qd hW;have bI:=qd (λap fp fs hap V hV=>iF tb gb key hash T ap fp fs hap V hV);have aX:=qd (tF tb gb key hash T mb mt iI fG mo a0 l0 m c W (h.below hB) hP h64 (hM.below hB) hmt iC (hT.below hB) hz);unfold iQ at bI;obtain⟨fs,hfs⟩:∃fs,fs=bW (aJ T.gs key hash).2.1:=⟨_,rfl⟩;rw[hsk]at bI aX;rw[<-hfs]at aX;clear hfs;simp only[vA,he0,Slot.ent,bW,fP,Ys,Jn]at bI aX;unfold bP at aX;unfold bP aP at bI;unfold bT aI fP aP;simp only[Ys,Jn];have HT:=qd (h.below hB);have HR:=qd (hR);have ah:=qd (Mod.of_below hB [mb,tb,gb]);clear hW hB h hM hL hR hT he1;go_in;go_upto_region 1 with fail;rw[<-HW.o];go_wp2_with fail;refine(aX.o).mono ?_;rintro x w1 ⟨ap,fp,rfl,hap,hfp,hM1,hm⟩;clear lc;replace HT:=qM hm HT;replace HR:=qM hm HR;replace ah:=qU ah hm;clear hm;obtain rfl:=hap i s rfl;clear hap hfp;have HM:=qd (hM1);clear hM1;go_upto_region 2 with fail;have q1:=qJ HT.o.aS (qJ HT.o.aT (qJ HR.o.lt (qJ HM.o.lt ah.o.size)));refine dL 222 #[pQ tb,nU key,nU hash,.pointer (some ⟨gb,i*25,none⟩),nI s,.pointer fp,.int .i64 fs] ?_;rintro w2 ⟨hnew,hb⟩;replace HT:=qB hb HT;replace HR:=qB hb HR;replace HM:=qB hb HM;replace ah:=qT ah hb;have HS:=qd (hnew);clear hnew hb;have sp:=HS.o.c7;go_wp2_with fail;refine(bI.o (some ⟨gb,i*25,none⟩) fp fs (λi2 s2 hh=>by cases hh;rfl) w2 HT.o).mono ?_;rintro x w3 ⟨rfl,hb⟩;clear sp;replace HT:=qB hb HT;replace HR:=qB hb HR;replace HM:=qB hb HM;replace HS:=qB hb HS
 replace ah:=qT ah hb;clear hb;go_upto_region 3 with fail;have q6:=qJ HT.o.aS (qJ HT.o.aT (qJ HR.o.lt (qJ HM.o.lt (qJ HS.o.lt ah.o.size))));refine dL 67 #[nU e0.key,nU e0.val,nU e0.hash] ?_;rintro w4 ⟨hnew,hb⟩;replace HT:=qB hb HT;replace HR:=qB hb HR;replace HM:=qB hb HM;replace HS:=qB hb HS;replace ah:=qT ah hb;have HD:=qd (hnew);clear hnew hb;have sp:=HS.o.c7;have dc:=HD.o.c3;have SL:=qd (Gc tb key hash gb fp fs T i s hil Bj e0 he0 hS w4.drew (HT.o.below (Below.refl _ _).drew));refine rT (λ(w':World)=>w'.cell? ⟨w3.heap.size,0,none⟩=some (nU e0.key)/\w'.cell? ⟨w3.heap.size,1,none⟩=some (nU e0.val)/\w'.cell? ⟨w3.heap.size,2,none⟩=some (nU e0.hash)/\w'.cell? ⟨w1.heap.size,0,none⟩=some (pQ tb)/\w'.cell? ⟨w1.heap.size,1,none⟩=some (nU key)/\w'.cell? ⟨w1.heap.size,2,none⟩=some (nU hash)/\w'.cell? ⟨w1.heap.size,3,none⟩=some (.pointer (some ⟨gb,i*25,none⟩))/\w'.cell? ⟨w1.heap.size,4,none⟩=some (nI s)/\w'.cell? ⟨w1.heap.size,5,none⟩=some (.pointer fp)/\w'.cell? ⟨w1.heap.size,6,none⟩=some (.int .i64 fs)) [7] ?_;have hHeld:=(⟨dc.1,dc.2.1,dc.2.2,sp.1,sp.2.1,sp.2.2.1,sp.2.2.2.1,sp.2.2.2.2.1,sp.2.2.2.2.2.1,sp.2.2.2.2.2.2⟩:_/\_/\_/\_/\_/\_/\_/\_/\_/\_);refine vT 0 rfl ?_;refine vW 1 rfl ?_;refine vW 2 rfl ?_;refine vT 3 rfl ?_;refine nT 4 rfl λK hK=> ?_;go_simp;refine(SL.o).mono ?_;rintro x w5 ⟨rfl,pV,hm⟩;replace hm:Mod [tb,gb] w4 w5:=(Mod.drewN [tb,gb] w4 1).then hm;clear HT sp dc;replace HR:=qM hm HR;replace HM:=qM hm HM;replace HS:=qM hm HS;replace HD:=qM hm HD
 replace ah:=qU ah hm;have HT:=qd (pV);clear pV hm;have sp:=HS.o.c7;have dc:=HD.o.c3;have rc:=HR.o.c3;have rf:=HR.o.f3;go_simp;have hHeld:=(⟨dc.1,dc.2.1,dc.2.2,sp.1,sp.2.1,sp.2.2.1,sp.2.2.2.1,sp.2.2.2.2.1,sp.2.2.2.2.2.1,sp.2.2.2.2.2.2⟩:_/\_/\_/\_/\_/\_/\_/\_/\_/\_);refine kO hK ?_;clear hK K;refine vW 5 rfl ?_;refine vW 6 rfl ?_;refine nT 7 rfl λK hK=> ?_;go_simp;refine kO hK ?_;clear hK K;refine vL 8 rfl ?_;refine aV (by kernel_rfl) ?_ _;clear HS HD;have q12:=qJ HR.o.lt (qJ HM.o.lt (qJ HT.o.aS HT.o.aT));have hnew:=(((HR.o.ak 0 (nU e0.key)).ak 1 (nU e0.val)).ak 2 (nU e0.hash));have hm:=((((Mod.refl [(w.heap.size+1)] w5).sl 0 (nU e0.key)).sl 1 (nU e0.val)).sl 2 (nU e0.hash));simp only[pt]at hnew;refine aY (F:=λv=>aj v (w.heap.size+1) 67 #[nU e0.key,nU e0.val,nU e0.hash]/\Mod [(w.heap.size+1)] w5 v) ⟨hnew,hm⟩ ?_;clear hnew hm;rintro w6 ⟨hnew,hm⟩;replace HM:=qM hm HM;replace HT:=qM hm HT;replace ah:=qU ah hm;replace HR:=qd hnew;clear hnew hm;have rc:=HR.o.c3;go_wp2;refine bodyPost_ret (v:= .tuple #[.agg #[nU e0.key,nU e0.val,nU e0.hash],.bool true]) (by simp[results,Tryz.results137,go_sem,rc.1,rc.2.1,rc.2.2]) rfl ⟨rfl,HT.o,HM.o,ah.o⟩
theorem FL (tb gb:Nat)(T:aC)(mb:Nat)(mt:TypeId)(iI fG:List Value)(mo:Nat)(a0 l0:bE)(m:Int)(c:bE)(key hash:Nat)(w:World)(h:TabAt w tb gb T)(hP:Pw T.gs.length)(h64:hash<18446744073709551616)(hM:Met w mb mt iI fG mo a0 l0 m)(hmt:mb≠tb)(iC:mb≠gb)(hT:gW w)(hz:16 ≠mb)(hsk:(aJ T.gs key hash).1=none):
  Calls Tryz.prog 137 #[bT tb,aI (some ⟨mb,mo,none⟩) c,nU key,nU hash] w λx w'=>x= .returned (fP none)/\TabAt w' tb gb T/\Met w' mb mt iI fG mo (fF a0 c (aJ T.gs key hash).2.2) (fF l0 c (aJ T.gs key hash).2.2) m/\Mod [mb] w w':=by
 obtain⟨W,hW,hB,hL,hR⟩:=lI w 153 #[.pointer (some ⟨mb,mo,none⟩),.int .i64 c.p,.int .i64 c.v,.int .i64 c.u] 67 #[.int .u64 0,.int .u64 0,.int .u64 0];have lc:=hL.c4;have hml:=hM.lt;have htl:=h.aS;have hgl:=h.aT;have HW:=qd hW;have bI:=qd (λap fp fs hap V hV=>iF tb gb key hash T ap fp fs hap V hV);have aX:=qd (tF tb gb key hash T mb mt iI fG mo a0 l0 m c W (h.below hB) hP h64 (hM.below hB) hmt iC (hT.below hB) hz);unfold iQ at bI;obtain⟨fs,hfs⟩:∃fs,fs=bW (aJ T.gs key hash).2.1:=⟨_,rfl⟩;rw[hsk]at bI aX;rw[<-hfs]at aX;clear hfs;simp only[vj,Slot.ent,bW,fP,kl,jp]at bI aX;unfold bP at aX;unfold bP aP at bI;unfold bT aI fP aP;simp only[kl,jp];have HT:=qd (h.below hB);have HR:=qd (hR);have ah:=qd (Mod.of_below hB [mb]);clear hW hB h hM hL hR hT;go_in;go_upto_region 1 with fail;rw[<-HW.o];go_wp2_with fail;refine(aX.o).mono ?_;rintro x w1 ⟨ap,fp,rfl,hap,hfp,hM1,hm⟩;clear lc;replace HT:=qM hm HT;replace HR:=qM hm HR;replace ah:=qU ah hm;clear hm hap hfp;have HM:=qd (hM1);clear hM1;go_upto_region 2 with fail;have q1:=qJ HT.o.aS (qJ HT.o.aT (qJ HR.o.lt (qJ HM.o.lt ah.o.size)));refine dL 222 #[pQ tb,nU key,nU hash,.pointer ap,.int .i64 (-1),.pointer fp,.int .i64 fs] ?_;rintro w2 ⟨hnew,hb⟩;replace HT:=qB hb HT;replace HR:=qB hb HR;replace HM:=qB hb HM;replace ah:=qT ah hb;have HS:=qd (hnew);clear hnew hb;have sp:=HS.o.c7;go_wp2_with fail
 refine(bI.o ap fp fs (λi2 s2 hh=>by cases hh) w2 HT.o).mono ?_;rintro x w3 ⟨rfl,hb⟩;clear sp;replace HT:=qB hb HT;replace HR:=qB hb HR;replace HM:=qB hb HM;replace HS:=qB hb HS;replace ah:=qT ah hb;clear hb;go_upto_region 3 with fail;have q6:=qJ HT.o.aS (qJ HT.o.aT (qJ HR.o.lt (qJ HM.o.lt (qJ HS.o.lt ah.o.size))));refine dL 67 #[.int .u64 0,.int .u64 0,.int .u64 0] ?_;rintro w4 ⟨hnew,hb⟩;replace HT:=qB hb HT;replace HR:=qB hb HR;replace HM:=qB hb HM;replace HS:=qB hb HS;replace ah:=qT ah hb;have HD:=qd (hnew);clear hnew hb;have sp:=HS.o.c7;have dc:=HD.o.c3;have rc:=HR.o.c3;have rf:=HR.o.f3;refine rT (λ(w':World)=>w'.cell? ⟨w3.heap.size,0,none⟩=some (.int .u64 0)/\w'.cell? ⟨w3.heap.size,1,none⟩=some (.int .u64 0)/\w'.cell? ⟨w3.heap.size,2,none⟩=some (.int .u64 0)) [7] ?_;have hHeld:=(⟨dc.1,dc.2.1,dc.2.2⟩:_/\_/\_);refine vT 0 rfl ?_;refine vW 1 rfl ?_;refine vW 2 rfl ?_;refine vU 3 rfl ?_;refine vU 4 rfl ?_;refine vU 5 rfl ?_;refine vW 6 rfl ?_;refine nT 7 rfl λK hK=> ?_;go_simp;refine kO hK ?_;clear hK K;refine vL 8 rfl ?_;refine aV (by kernel_rfl) ?_ _;clear HS HD;have q12:=qJ HT.o.aS (qJ HT.o.aT (qJ HR.o.lt HM.o.lt));have hnew:=(((HR.o.ak 0 (.int .u64 0)).ak 1 (.int .u64 0)).ak 2 (.int .u64 0)).drew;have hm:=(((((Mod.refl [(w.heap.size+1)] w4).sl 0 (.int .u64 0)).sl 1 (.int .u64 0)).sl 2 (.int .u64 0)).then (Mod.drewN [(w.heap.size+1)] _ 1));simp only[pt]at hnew
 refine aY (F:=λv=>aj v (w.heap.size+1) 67 #[.int .u64 0,.int .u64 0,.int .u64 0]/\Mod [(w.heap.size+1)] w4 v) ⟨hnew,hm⟩ ?_;clear hnew hm;rintro w6 ⟨hnew,hm⟩;replace HT:=qM hm HT;replace HM:=qM hm HM;replace ah:=qU ah hm;replace HR:=qd hnew;clear hnew hm;have rc:=HR.o.c3;go_wp2;refine bodyPost_ret (v:= .tuple #[.agg #[.int .u64 0,.int .u64 0,.int .u64 0],.bool false]) (by simp[results,Tryz.results137,go_sem,rc.1,rc.2.1,rc.2.2]) rfl ⟨rfl,HT.o,HM.o,ah.o⟩
theorem Jp (tb gb:Nat)(T:aC)(mb:Nat)(mt:TypeId)(iI fG:List Value)(mo:Nat)(a0 l0:bE)(m:Int)(c:bE)(i:Nat)(hi:i<T.gs.length)(w:World)(h:TabAt w tb gb T)(hM:Met w mb mt iI fG mo a0 l0 m)(hmt:mb≠tb)(iC:mb≠gb):
  Calls Tryz.prog 290 #[bT tb,aI (some ⟨mb,mo,none⟩) c,nI i] w λx w'=>x= .returned (.tuple #[bG ⟨gb,i*25,none⟩,.bool true])/\Met w' mb mt iI fG mo (jN a0 c) (jN l0 c) m/\Mod [mb] w w':=by
 obtain⟨W,hW,hB,hL,hR⟩:=lI w 153 #[.pointer (some ⟨mb,mo,none⟩),.int .i64 c.p,.int .i64 c.v,.int .i64 c.u] 211 #[.pointer none];have lc:=hL.c4;have LK:=hR.cell 0;simp only[zr,zc]at LK;have hml:=hM.lt;have htl:=h.aS;have hgl:=h.aT;have HW:=qd hW
 have hi':(i:Int)<(T.gs.length:Int):=by omega
 have hi0:¬((i:Int)<0):=by omega
 have hi2:(0:Int)<=(i:Int):=by omega
 have uO:=qd (xP ⟨gb,i*25,none⟩ mb mt iI fG mo a0 l0 m c W.drew (hM.below (hB.trans ((Below.refl _ _).drew.mono hB.size))));obtain⟨uP,tc1,tc2⟩:=(h.below hB).cells;unfold aI at uO;unfold bT aI bG;have HT:=qd (h.below hB);have HR:=qd (hR);have ah:=qd (Mod.of_below hB [mb]);clear hW hB h hM hL hR;go_in;go_upto_region 1 with fail;rw[<-HW.o];go_upto_region 3 with fail;refine rT (λ(w':World)=>w'.cell? ⟨tb,0,none⟩=some (.slice (some ⟨gb,0,none⟩) T.gs.length T.gs.length)/\w'.cell? ⟨w.heap.size,0,none⟩=some (.pointer (some ⟨mb,mo,none⟩))/\w'.cell? ⟨w.heap.size,1,none⟩=some (.int .i64 c.p)/\w'.cell? ⟨w.heap.size,2,none⟩=some (.int .i64 c.v)/\w'.cell? ⟨w.heap.size,3,none⟩=some (.int .i64 c.u)) [7,8] ?_;have hHeld:=(⟨uP,lc.1,lc.2.1,lc.2.2.1,lc.2.2.2⟩:_/\_/\_/\_/\_);refine vW 0 rfl ?_;refine vW 1 rfl ?_;refine vW 2 rfl ?_;refine vT 3 rfl ?_;refine vW 4 rfl ?_;refine vW 5 rfl ?_;refine vT 6 rfl ?_;refine nT 7 rfl λK hK=> ?_;go_simp;refine(uO.o).mono ?_;rintro x w1 ⟨rfl,hM1,hm⟩;replace hm:Mod [mb] W w1:=(Mod.drewN [mb] W 1).then hm;clear lc LK;replace HT:=qM hm HT;replace HR:=qM hm HR;replace ah:=qU ah hm;have HM:=qd (hM1);clear hM1 hm;unfold bG;have LK:=HR.o.cell 0;simp only[zr,zc]at LK;have rf0:=HR.o.frozen 0;have n0:=HT.o.cells.1;go_simp;refine kO hK ?_;clear hK K;refine nT 8 rfl λK hK=> ?_;go_simp;refine kO hK ?_;clear hK K;refine vL 9 rfl ?_;refine aV (by kernel_rfl) ?_ _;have q1:=qJ HT.o.aS (qJ HT.o.aT (qJ HR.o.lt HM.o.lt))
 have hnew:=(HR.o.ak 0 (.pointer (some ⟨gb,i*25,none⟩)));have hm:=((Mod.refl [(w.heap.size+1)] w1).sl 0 (.pointer (some ⟨gb,i*25,none⟩)));simp only[pt]at hnew;refine aY (F:=λv=>aj v (w.heap.size+1) 211 #[.pointer (some ⟨gb,i*25,none⟩)]/\Mod [(w.heap.size+1)] w1 v) ⟨hnew,hm⟩ ?_;clear hnew hm;rintro w2 ⟨hnew,hm⟩;clear LK rf0;replace HT:=qM hm HT;replace HM:=qM hm HM;replace ah:=qU ah hm;replace HR:=qd hnew;clear hnew hm;have LK:=HR.o.cell 0;simp only[zr,zc]at LK;go_wp2;refine bodyPost_ret (v:= .tuple #[.agg #[.pointer (some ⟨gb,i*25,none⟩)],.bool true]) (by simp[results,Tryz.results290,go_sem,LK]) rfl ⟨rfl,HM.o,ah.o⟩
theorem Nt (tb gb:Nat)(T:aC)(mb:Nat)(mt:TypeId)(iI fG:List Value)(mo:Nat)(a0 l0:bE)(m:Int)(c:bE)(i:Nat)(hi:i<T.gs.length)(w:World)(h:TabAt w tb gb T)(hM:Met w mb mt iI fG mo a0 l0 m)(hmt:mb≠tb)(iC:mb≠gb):
  Calls Tryz.prog 285 #[bT tb,aI (some ⟨mb,mo,none⟩) c,nI i] w λx w'=>x= .returned .nilIface/\TabAt w' tb gb {T with gs:=T.gs.set i (List.replicate 8 .empty)}/\Met w' mb mt iI fG mo (jN a0 c) (jN l0 c) m/\Mod [mb,tb,gb] w w':=by
 have hB:=(Below.refl w.heap.size w).alloc (zb _) (.cells #[.pointer (some ⟨mb,mo,none⟩),.int .i64 c.p,.int .i64 c.v,.int .i64 c.u] 153);have hL:=aj.new w 153 #[.pointer (some ⟨mb,mo,none⟩),.int .i64 c.p,.int .i64 c.v,.int .i64 c.u];obtain⟨W,hW⟩:∃W,W=w.alloc (.cells #[.pointer (some ⟨mb,mo,none⟩),.int .i64 c.p,.int .i64 c.v,.int .i64 c.u] 153):=⟨_,rfl⟩;rw[<-hW]at hB hL;obtain⟨LA,LB,LC,LD⟩:=hL.c4;have hml:=hM.lt;have htl:=h.aS;have hgl:=h.aT;have HW:=qd hW;have uO:=qd (Jp tb gb T mb mt iI fG mo a0 l0 m c i hi W (h.below hB) (hM.below hB) hmt iC);unfold bT aI bG at uO;unfold bT aI;have HT:=qd (h.below hB);have ah:=qd (Mod.of_below hB [mb,tb,gb]);clear hW hB h hM hL;go_in;go_upto_region 1 with fail;rw[<-HW.o];go_wp2_with fail;refine(uO.o).mono ?_;rintro x w1 ⟨rfl,hM1,hm⟩;clear LA LB LC LD;replace HT:=qM hm HT;replace ah:=qU ah hm;clear hm;have HM:=qd (hM1);clear hM1;go_upto_region 4 with fail;have q1:=qJ HT.o.aS (qJ HT.o.aT (qJ HM.o.lt ah.o.size));refine dL 211 #[.pointer (some ⟨gb,i*25,none⟩)] ?_;rintro w2 ⟨hnew,hb⟩;replace HT:=qB hb HT;replace HM:=qB hb HM;replace ah:=qT ah hb;have HV:=qd (hnew);clear hnew hb;have Bl:=HV.o.cell 0;simp only[zr,zc]at Bl;have zJ:=qd (Lv gb 215 _ _ (i*25) _ w2 (HT.o.group i hi));unfold bG at zJ;go_wp2_with fail;refine(zJ.o).mono ?_;rintro x w3 ⟨rfl,hG3,hm⟩;have C8:=HT.o.pU i hi hm hG3;clear HT hG3 HV Bl
 replace HM:=qM hm HM;replace ah:=qU ah hm;have HT:=qd (C8);clear hm C8;go_wp2;go_ret;exact⟨rfl,HT.o,HM.o,ah.o⟩
section
variable {T : aC} {i s : Nat}
structure ny (T:aC):Prop where
 wide:rE T.gs
 pow:Pw T.gs.length
 live:T.live=((aM T.gs).length:Int)
 dh:T.dh=(fH T.gs:Int)
theorem ny.small (h:ny T):Small T:=by
 have h1:=Wt h.wide;have h2:=h.pow.le;exact⟨by rw[h.live];omega,by rw[h.live];omega,by rw[h.dh];omega,by rw[h.dh];omega,h2⟩
theorem ny.put (h:ny T)(hi:i<T.gs.length)(hs:s<(T.gs.getD i []).length)(x:Slot){l t:Int}(hl:l=T.live+x.ents.length-(aH T.gs i s).ents.length)(ht:t=T.dh+x.lT-(aH T.gs i s).lT):ny ⟨putAt T.gs i s x,l,t⟩:=by
 have h1:=(DC hi hs x).length_eq;have h2:=xO hi hs x;rw[ZD,ZD]at h1;have h3:=h.live;have h4:=h.dh;exact⟨h.wide.put _ _ _,by show Pw (putAt _ _ _ _).length;rw[iO];exact h.pow,by show l=((aM (putAt T.gs i s x)).length:Int);omega,by show t=(fH (putAt T.gs i s x):Int);omega⟩
theorem ny.erase (h:ny T){e:ay}(he:aH T.gs i s= .full e):ny (jh T i s):=by
 obtain⟨hi,hs⟩:=lu (gs:=T.gs) (i:=i) (s:=s) (by rw[he];exact λh=>by cases h);unfold jh
 cases ho:dP (T.gs.getD i [])with
 |true=>exact h.put hi hs _ (by rw[he];simp[Slot.ents]<;>omega) (by rw[he];simp[Slot.lT,Slot.jg]<;>omega)
 |false=>exact h.put hi hs _ (by rw[he];simp[Slot.ents]<;>omega) (by rw[he];simp[Slot.lT,Slot.jg]<;>omega)
theorem ny.place (h:ny T)(hi:i<T.gs.length)(hs:s<(T.gs.getD i []).length)(he:(aH T.gs i s).isFull=false)(e:ay):ny (j4 T i s e):=by
 unfold j4
 cases hx:aH T.gs i s with
 |full y=>rw[hx]at he;cases he
 |empty=>exact h.put hi hs _ (by rw[hx];simp[Slot.ents]<;>omega) (by rw[hx];simp[Slot.lT,Slot.jg]<;>omega)
 |qP=>exact h.put hi hs _ (by rw[hx];simp[Slot.ents]<;>omega) (by rw[hx];simp[Slot.lT,Slot.jg]<;>omega)
theorem ny.replace (h:ny T){v:Nat}{e:ay}(he:aH T.gs i s= .full e):ny (replaceM T i s v e):=by
 obtain⟨hi,hs⟩:=lu (gs:=T.gs) (i:=i) (s:=s) (by rw[he];exact λh=>by cases h);exact h.put hi hs _ (by rw[he];simp[Slot.ents]<;>omega) (by rw[he];simp[Slot.lT,Slot.jg]<;>omega)
def gY (T:aC)(i s:Nat):aC:=if(aH T.gs i s).isFull then jh T i s else T
def takeN (T:aC)(i:Nat):Nat->aC
 |0=>T
 |k+1=>gY (takeN T i k) i k
theorem ny.af4 (h:ny T)(i s:Nat):ny (gY T i s):=by
 unfold gY
 cases hx:aH T.gs i s with
 |full e=>rw[if_pos (by rfl)];exact h.erase hx
 |empty=>rw[if_neg (by simp[Slot.isFull])];exact h
 |qP=>rw[if_neg (by simp[Slot.isFull])];exact h
theorem ny.tkN (h:ny T)(i:Nat):∀k,ny (takeN T i k)
 |0=>h
 |k+1=>(h.tkN i k).af4 i k
theorem Dc (T:aC)(i s:Nat):(jh T i s).gs.length=T.gs.length:=iO _ _ _ _
theorem tH (T:aC)(i:Nat):∀k,(takeN T i k).gs.length=T.gs.length
 |0=>rfl
 |k+1=>by
  show(gY _ _ _).gs.length=_;unfold gY;split
  ·rw[Dc,tH T i k]
  ·exact tH T i k
theorem ac1 {w w':World}{S:List Nat}{base:Nat}{e:TypeId}{size n:Nat}{v:Value}{xs:List Value}(h:w.ownsRow base e size v n xs)(hm:Mod S w w')(hS:∀k,k∈S->k<base):w'.ownsRow base e size v n xs:=by
 refine⟨h.1, ?_⟩;rcases h.2 with hn|⟨g,cap,cur,hv,hb,hg,rest⟩
 ·exact .inl hn
 ·exact .inr ⟨g,cap,cur,hv,hb,(hm.block g (qi.1 hg).1 (λhh=>absurd (hS g hh) (by omega))).trans hg,rest⟩
instance {w w':World}{base:Nat}{e:TypeId}{size n:Nat}{v:Value}{xs:List Value}:Md (w.ownsRow base e size v n xs) w w' (w'.ownsRow base e size v n xs) (λS=>∀k,k∈S->k<base):=⟨λh hm hs=>ac1 h hm hs⟩
end
section
structure vQ (E:Nat->Addr)(w:World):Prop where
 of:∀k,k=1\/k=2\/k=5->bY E w k
theorem vQ.at_ {E:Nat->Addr}{w:World}(h:vQ E w)(k:Nat)(_:1<=k)(_:k<=16)(hk:k=1\/k=2\/k=5:=by decide):bY E w k:=h.of k hk
theorem vQ.below {E:Nat->Addr}{w w':World}{B:Nat}(h:vQ E w)(hb:Below B w w')(hB:w.heap.size<=B):vQ E w':=⟨λk hk=>(h.of k hk).below hb hB⟩
theorem eU.core {E:Nat->Addr}{w:World}(h:eU E w):vQ E w:=⟨λk hk=>h.at_ k (by omega) (by omega)⟩
structure Env (W0:World)(E:Nat->Addr)(w:World):Prop where
 below:Below W0.heap.size W0 w
 acd:vQ E W0
 tz0:gW W0
section
variable {W0 w w' : World} {E : Nat -> Addr}
theorem Env.size (h:Env W0 E w):W0.heap.size<=w.heap.size:=h.below.size
theorem Env.errs (h:Env W0 E w):vQ E w:=h.acd.below h.below (zb _)
theorem Env.tz (h:Env W0 E w):gW w:=h.tz0.below h.below
theorem Env.OX (h:Env W0 E w):16 <W0.heap.size:=qt W0 _ (h.tz0 0 (by omega))
theorem Env.mod {S:List Nat}(h:Env W0 E w)(hm:Mod S w w')(hS:∀k,k∈S->W0.heap.size<=k):Env W0 E w':=⟨h.below.trans (hm.below hS h.size),h.acd,h.tz0⟩
instance {w w':World}{W0:World}{E:Nat->Addr}:Md (Env W0 E w) w w' (Env W0 E w') (λS=>∀k,k∈S->W0.heap.size<=k):=⟨λh hm hs=>h.mod hm hs⟩
theorem Env.next (h:Env W0 E w)(hb:Below w.heap.size w w'):Env W0 E w':=h.mod (Mod.of_below hb []) (by simp)
end
structure MP where
 mb:Nat
 mt:TypeId
 pre:List Value
 post:List Value
 mo:Nat
 m:Int
structure bS where
 all:bE
 last:bE
def bS.add (x:bS)(c:bE)(n:Nat):bS:=⟨fF x.all c n,fF x.last c n⟩
theorem D8 (a c:bE)(k:Nat):∀n,fF (fF a c k) c n=fF a c (k+n)
 |0=>rfl
 |n+1=>by
  show jN (fF (fF a c k) c n) c=jN (fF a c (k+n)) c;rw[D8 a c k n]
theorem bS.add_add (x:bS)(c:bE)(k n:Nat):(x.add c k).add c n=x.add c (k+n):=by unfold bS.add;rw[D8,D8]
def aN (w:World)(P:MP)(x:bS):Prop:=Met w P.mb P.mt P.pre P.post P.mo x.all x.last P.m
def MP.addr (P:MP):Addr:=⟨P.mb,P.mo,none⟩
section
variable {w w' : World} {P : MP} {x : bS}
theorem aN.lt (h:aN w P x):P.mb<w.heap.size:=Met.lt h
theorem aN.mod {S:List Nat}(h:aN w P x)(hm:Mod S w w')(hg:P.mb∉S):aN w' P x:=Met.mod h hm hg
instance {w w':World}{P:MP}{x:bS}:Md (aN w P x) w w' (aN w' P x) (λS=>P.mb∉S):=⟨λh hm hs=>aN.mod h hm hs⟩
theorem aN.below (h:aN w P x)(hb:Below w.heap.size w w'):aN w' P x:=Met.below h hb
end
end
theorem Ci {z:Array Value}{v:Value}{k:Nat}(hz:z=(List.replicate k v).toArray)(hk:0<k)(n:Nat):madeCells z n=(List.replicate n v).toArray:=by
 apply Array.toList_inj.1;subst hz;unfold madeCells;rw[Array.toList_map];refine List.ext_getElem (by simp) λi h1 h2=> ?_;simp only[List.getElem_map,List.getElem_replicate];rw[getElem!_pos _ _ (by simp;exact kA _ hk)];simp
def Cj:lU:=List.replicate 8 (.full ⟨0,0,0⟩)
theorem UL:yJ Cj=List.replicate 25 (.int .u64 0):=by rfl
theorem D9:∀n,dG (List.replicate n Cj)=List.replicate (n*25) (.int .u64 0)
 |0=>rfl
 |n+1=>by
  show yJ Cj++dG (List.replicate n Cj)=_;rw[D9 n,UL,Nat.add_mul,Nat.add_comm,List.replicate_append_replicate]
def ahz:Value:= .agg #[.int .u64 0,.agg (Array.replicate 8 (.agg #[.int .u64 0,.int .u64 0,.int .u64 0]))]
theorem aal:(Tryz.prog.info? 215).map (λi=>(i.zero.map λz=>z.cells,i.size,i.bytes))=some (some (List.replicate 25 (Value.int .u64 0)).toArray,25,200):=by kernel_rfl
theorem RB (n:Nat)(hn:n<=64)(W:World):(Instr.makeSlice 206 (nI n) (nI n)).run Tryz.prog W= .ok (.slice (some ⟨W.heap.size,0,none⟩) n n) (W.alloc (.cells (dG (List.replicate n Cj)).toArray 215)):=by
 have h:=aal
 cases hi:Tryz.prog.info? 215 with
 |none=>rw[hi]at h;cases h
 |some i=>
  rw[hi]at h;simp only[vA,Option.some.injEq,Prod.mk.injEq,yl]at h;obtain⟨⟨z,hz,hc⟩,hs,hb⟩:=h;have:=run_makeSlice (P:=Tryz.prog) (w:=W) 206 215 i z Tryz.underlying206 hi hz .i64 .i64 (n:Int) (n:Int) (by omega) (Int.le_refl _) (by rw[hs];omega) (by rw[hb];omega) (by omega);rw[this,hs,vm,Ci hc (by omega),D9]
theorem qE (n:Nat)(hn:Pw n)(w:World):Calls Tryz.prog 152 #[nI n] w λe w'=>e= .returned (.bool true)/\w=w':=by
 rcases hn with rfl|rfl|rfl|rfl|rfl|rfl|rfl
 all_goals
  go_in;go_wp2;go_ret;exact⟨rfl,rfl⟩
def UM (n:Nat):aC:=⟨List.replicate n Cj,0,0⟩
theorem LM (n:Nat)(hn:Pw n)(w:World):
  Calls Tryz.prog 116 #[nI n] w λe w'=>e= .returned (.tuple #[bT (w.heap.size+1),.nilIface])/\TabAt w' (w.heap.size+1) w.heap.size (UM n)/\Below w.heap.size w w':=by
 have HR:=qd (qE n hn w);have hle:=hn.le;have hpos:=hn.pos;have hmk:=RB n hle w;unfold bT;go_in;go_wp2_with fail;refine(HR.o).mono ?_;rintro x w1 ⟨rfl,rfl⟩;go_wp2;refine bodyPost_ret (v:= .tuple #[.pointer (some ⟨w.heap.size+1,0,none⟩),.nilIface]) (by simp[results,Tryz.results116,go_sem]) rfl ⟨rfl,⟨λG hG=> ?_, ?_, ?_,by omega⟩, ?_⟩
 ·rw[(vd.1 hG).2];rfl
 ·have:=aj.new (w.alloc (.cells (dG (List.replicate n Cj)).toArray 215)) 208 #[.slice (some ⟨w.heap.size,0,none⟩) n n,.int .i64 0,.int .i64 0];rw[xN]at this;simpa[UM]using this
 ·exact(aj.new w 215 (dG (List.replicate n Cj)).toArray).alloc _
 ·exact((Below.refl _ _).alloc (zb _) _).alloc (by simp) _
def OY:lU:=List.replicate 8 .empty
def rC (n k:Nat):Tab:=List.replicate k OY++List.replicate (n-k) Cj
theorem zK (n:Nat):rC n n=bare n:=by unfold rC;rw[ve];simp[bare,OY]
theorem pW {n k:Nat}(h:k<=n):(rC n k).length=n:=by simp[rC];omega
theorem LP {n k:Nat}(h:k<n):(rC n k).set k OY=rC n (k+1):=by
 unfold rC;rw[ki _ _ (by simp),List.length_replicate,ve,show n-k=(n-(k+1))+1 by omega,List.replicate_succ,XX,List.replicate_succ',qe];rfl
def eB (n k:Nat):aC:=⟨rC n k,0,0⟩
theorem ac2 {n:Nat}(hn:Pw n):ny (eB n n):=by
 have h:=(Ov hn);refine⟨?_, ?_, ?_, ?_⟩
 ·show rE (rC n n);rw[zK];exact h.wide
 ·show Pw (rC n n).length;rw[pW (zb _)];exact hn
 ·show(0:Int)=((aM (rC n n)).length:Int);rw[zK]
  have:aM (bare n)=[]:=List.eq_nil_iff_forall_not_mem.2 λe he=>by obtain⟨i,s,hh⟩:=rU.1 he;rw[Aj]at hh;cases hh
  rw[this];rfl
 ·show(0:Int)=(fH (rC n n):Int);rw[zK]
  have:∀n,fH (bare n)=0:=λn=>by
   induction n with
   |zero=>rfl
   |succ k ih=>show fH (List.replicate 8 Slot.empty::bare k)=0;rw[Ai,ih];rfl
  rw[this];rfl
theorem W9 (n:Nat)(hn:Pw n)(w:World):
  Calls Tryz.prog 91 #[nI n] w λe w'=>∃tb gb,w.heap.size<=tb/\w.heap.size<=gb/\e= .returned (.tuple #[bT tb,.nilIface])/\TabAt w' tb gb (eB n n)/\Below w.heap.size w w':=by
 have hle:=hn.le;have hpos:=hn.pos;have aam:=qd (LM n hn w);unfold bT at aam|-;go_in;go_upto_region 1 with fail;go_wp2_with fail;refine(aam.o).mono ?_;rintro x w1 ⟨rfl,hT1,hb1⟩;obtain⟨tb,htb⟩:∃tb,tb=w.heap.size+1:=⟨_,rfl⟩;obtain⟨gb,hgb⟩:∃gb,gb=w.heap.size:=⟨_,rfl⟩;rw[<-htb]at hT1|-;rw[<-hgb]at hT1
 replace htb:w.heap.size<=tb:=by omega
 replace hgb:w.heap.size<=gb:=by omega
 clear aam;obtain⟨c0,c1,c2⟩:=hT1.cells
 have hln:(UM n).gs.length=n:=by simp[UM]
 rw[hln]at c0;have HT:=qd (show TabAt w1 tb gb (eB n 0)from hT1);have ah:=qd hb1;clear hT1 hb1 hln;go_wp2;go_loopw [6,20] (λ_ i wr=>∃k:Nat,k<=n/\i= .int .i64 k/\TabAt wr tb gb (eB n k)/\Below w.heap.size w wr) (λ_ i _=>n-(intOf i).toNat)
 case atStart=>exact⟨0,by omega,rfl,HT.o,ah.o⟩
 case round=>
  clear HT ah c0 c1 c2;obtain⟨k,hk,rfl,hT,hm⟩:=hrel;by_cases hlt:k<n
  ·have hlt':(k:Int)<(n:Int):=by omega
   have hk0:(0:Int)<=(k:Int):=by omega
   obtain⟨c0,c1,c2⟩:=hT.cells;have hln:(eB n k).gs.length=n:=pW hk;rw[hln]at c0;have htl:=hT.aS;have hgl:=hT.aT;have uO:=qd (Kt ⟨gb,k*25,none⟩ ⟨0,0,0⟩ wr);have HG:=qd (hT.group k (by rw[hln];exact hlt));have HT:=qd hT;have Hm:=qd hm;have HS:=qd (LP hlt);unfold aI bG at uO;clear hT hm hln;go_wp2_with fail;refine(uO.o).mono ?_;rintro x w2 ⟨rfl,hb2⟩;have zJ:=qd (Lv gb 215 _ _ (k*25) _ w2 (HG.o.below hb2));have HT2:=qd (HT.o.below hb2);have Xa:=qd (Hm.o.trans (hb2.mono Hm.o.size));unfold bG at zJ;clear hb2 HT Hm HG uO;go_wp2_with fail;refine(zJ.o).mono ?_;rintro x w3 ⟨rfl,hG3,gQ⟩;have HT3:=qd (HT2.o.pU k (by rw[show(eB n k).gs.length=n from pW hk];exact hlt) gQ hG3);have Hm3:=qd (Xa.o.trans (gQ.below (B:=w.heap.size) (by intro j hj;simp at hj;omega) Xa.o.size));clear HT2 Xa hG3 gQ;go_wp2;go_roundw
   case rel=>exact⟨k+1,by omega,by go_num,by have:=HT3.o;unfold eB at this|-;rw[<-HS.o];exact this,Hm3.o⟩
   case measure=>simp[intOf];omega
  ·obtain rfl:k=n:=by omega
   have hlt':¬(k:Int)<(k:Int):=by omega
   go_wp2;refine bodyPost_ret (v:= .tuple #[pQ tb,.nilIface]) (by simp[results,Tryz.results91,go_sem]) rfl (by first|exact⟨tb,gb,htb,hgb,rfl,hT,hm⟩|exact⟨tb,htb,gb,hgb,rfl,hT,hm⟩)
