/- A table's Find, Put, Delete by their contracts. -/
import Derived.Test.YtbfpfgfgfjhpfaaGreatDoorTabT
import Derived.Test.YtbfpfgfgfjhpfaaGreatDoorPlA
import Derived.Test.YtbfpfgfgfjhpfaaGreatDoorSq
import Derived.Test.YtbfpfgfgfjhpfaaGreatDoorHeldT
import Derived.Laws.StructEq
import Derived.Lib.SlicesDelete
import Derived.Lib.SliceRun
import Derived.Sort.WalkB12
import Derived.Deep.RegionLaw
import Derived.Test.YtbfpfgfgfjhpfaaGreatDoorCoG
namespace Go.Proofs.YtbfpfgfgfjhpfaaGreatDoor
set_option maxRecDepth 100000
set_option maxHeartbeats 4000000
open Go.RowKit dP Go.Shelf zW
theorem bU {p F:World→Prop}{w:World}(h:F w)(h2:∀v,F v→p v):p w:=h2 w h
theorem gZ.below {w w':World}(h:gZ w)(hb:Below w.heap.size w w'):gZ w':=fun i hi=>aA hb (h i hi)
theorem gZ.mod {S:List Nat}{w w':World}(h:gZ w)(hm:Mod S w w')(hs:13 ∉S):gZ w':=fun i hi=>
 (hm.cell_ (p:=⟨13,p8 i,none⟩) (World.block_lt_of_cell? w _ (h i hi)) hs).trans (h i hi)
def jN (gs:Tab)(key hash:Nat):Option av:=(aH gs key hash).1.map fun x=>(aF gs x.1 x.2).ent
def kH (o:Option av):Value:= .tuple #[aR (o.getD ⟨0,0,0⟩),.bool o.isSome]
theorem kI (tb gb key hash:Nat)(T:aC)(ap fp:Option Addr)(fs:Int)(hap:iO gb (aH T.gs key hash).1 ap)(w:World)(h:TabAt w tb gb T):
  Calls Tryz.prog 100 #[dJ tb key hash ap (dI (aH T.gs key hash).1) fp fs] w fun x w'=>x= .returned (kH (jN T.gs key hash))∧Below w.heap.size w w':=by
 unfold jN kH
 cases hs:(aH T.gs key hash).1 with
 |none=>exact Ip tb key hash ap fp fs w
 |some x=>
  obtain⟨i,s⟩:=x;obtain⟨e,h1,_,h3,h4⟩:=Dv hs;obtain rfl:=hap i s hs;have:=Iq tb key hash gb fp fs T i s h3 (by have:=h.wide.at_ h3;omega) e h1 w h;simpa[dI,h1,Slot.ent]using this
theorem Tt (tb gb:Nat)(T:aC)(mb:Nat)(mt:TypeId)(kr iP:List Value)(mo:Nat)(a0 l0:bE)(m:Int)(c:bE)(key hash:Nat)(w:World)(h:TabAt w tb gb T)(hP:Pw T.gs.length)(h64:hash<18446744073709551616)(hM:Met w mb mt kr iP mo a0 l0 m)(hmt:mb≠tb)(jW:mb≠gb)(hT:gZ w)(hz:13 ≠mb):
  Calls Tryz.prog 206 #[cZ tb,aJ (some ⟨mb,mo,none⟩) c,.int .u64 (key:Int),.int .u64 (hash:Int)] w fun x w'=>x= .returned (kH (jN T.gs key hash))∧Met w' mb mt kr iP mo (gH a0 c (aH T.gs key hash).2.2) (gH l0 c (aH T.gs key hash).2.2) m∧Mod [mb] w w':=by
 obtain⟨W,hW,hB,hL,hD⟩:=oJ w 154 #[.pointer (some ⟨mb,mo,none⟩),.int .i64 c.p,.int .i64 c.v,.int .i64 c.u] 76 #[.int .u64 0,.int .u64 0,.int .u64 0];obtain⟨Kz,KA,KC,KD⟩:=hL.c4;have hml:=hM.lt;have mM:=h.below hB;have bK:=qd (BF tb gb key hash T mb mt kr iP mo a0 l0 m c W mM hP h64 (hM.below hB) hmt jW (hT.below hB) hz);have HW:=qd hW;have HB:=qd hB;have dU:=qd (fun ap fp fs hap V hV=>kI tb gb key hash T ap fp fs hap V hV);unfold cZ aJ dJ at bK;unfold dJ kH aR at dU;unfold cZ aJ kH aR;clear hW hB h hM;obtain⟨fe,hfe⟩:∃fe,fe=(jN T.gs key hash).getD ⟨0,0,0⟩:=⟨_,rfl⟩;obtain⟨fb,iB⟩:∃fb,fb=(jN T.gs key hash).isSome:=⟨_,rfl⟩;rw[←hfe,←iB]at dU⊢;clear hfe iB;go_in;go_upto_region 1 with fail;rw[←HW.out];go_wp2_with fail;refine(bK.out).mono ?_;rintro x w1 ⟨ap,fp,rfl,hap,hfp,hM1,hm1⟩;have Vl:=qd hM1;have hD1:=hD.mod hm1 (by simp;omega);have Am:=qd (dU.out ap fp (dI (aH T.gs key hash).2.1) hap w1 (mM.mod hm1 (by simp;omega) (by simp;omega)));clear hM1 hap hfp hD mM;go_wp2_with fail;refine(Am.out).mono ?_;rintro x w2 ⟨rfl,hb2⟩;have hD2:=hD1.below hb2 hD1.lt;obtain⟨d0,d1,d2⟩:=hD2.c3;obtain⟨f0,f1,f2⟩:=hD2.f3;have hM2:=Vl.out.below hb2;have hm2:=((Mod.of_below HB.out [mb]).then hm1).then (Mod.of_below hb2 [mb]);have hlw:=hD1.lt;have iZ:=((hm2.ak (b:=w.heap.size+1) (.inr (by omega)) 0 (.int .u64 (fe.key:Int))).ak (b:=w.heap.size+1) (.inr (by omega)) 1 (.int .u64 (fe.val:Int))).ak (b:=w.heap.size+1) (.inr (by omega)) 2 (.int .u64 (fe.hash:Int))
 have hne:mb≠w.heap.size+1:=by omega
 have HP:=qd (And.intro (show Met _ mb mt kr iP mo _ _ m from⟨hM2.len,((hM2.blk.far (p:=⟨w.heap.size+1,0,none⟩) hne (.int .u64 (fe.key:Int))).far (p:=⟨w.heap.size+1,1,none⟩) hne (.int .u64 (fe.val:Int))).far (p:=⟨w.heap.size+1,2,none⟩) hne (.int .u64 (fe.hash:Int))⟩) iZ);clear hM2 hm2 iZ hb2 hm1 hD1 hD2;go_wp2;refine bodyPost_ret (v:= .tuple #[.agg #[.int .u64 (fe.key:Int),.int .u64 (fe.val:Int),.int .u64 (fe.hash:Int)],.bool fb]) ?_ rfl ⟨rfl,HP.out.1,HP.out.2⟩;simp[results,Tryz.results206,go_sem,d0,d1,d2]
theorem Me (tb gb:Nat)(T:aC)(mb:Nat)(mt:TypeId)(kr iP:List Value)(mo:Nat)(a0 l0:bE)(m:Int)(c:bE)(e:av)(w:World)(h:TabAt w tb gb T)(hP:Pw T.gs.length)(h64:e.hash<18446744073709551616)(hM:Met w mb mt kr iP mo a0 l0 m)(hmt:mb≠tb)(jW:mb≠gb)(hT:gZ w)(hz:13 ≠mb)(hsk:(aH T.gs e.key e.hash).1=none)(i s:Nat)(hfr:(aH T.gs e.key e.hash).2.1=some (i,s))(hS:Small T)(hroom:T.live+T.bW+1≤7*(T.gs.length:Int)):
  Calls Tryz.prog 274 #[cZ tb,aJ (some ⟨mb,mo,none⟩) c,aR e] w fun x w'=>x= .returned (.tuple #[.bool true,.nilIface])∧TabAt w' tb gb (jM T i s e)∧Met w' mb mt kr iP mo (gH a0 c (aH T.gs e.key e.hash).2.2) (gH l0 c (aH T.gs e.key e.hash).2.2) m∧Mod [mb,tb,gb] w w':=by
 obtain⟨W,hW,hB,hL,hE⟩:=oJ w 154 #[.pointer (some ⟨mb,mo,none⟩),.int .i64 c.p,.int .i64 c.v,.int .i64 c.u] 76 #[.int .u64 (e.key:Int),.int .u64 (e.val:Int),.int .u64 (e.hash:Int)];obtain⟨Kz,KA,KC,KD⟩:=hL.c4;obtain⟨e0,e1,e2⟩:=hE.c3;have hml:=hM.lt;have htl:=h.aW;have hgl:=h.aX;have mM:=h.below hB;have h8:=fun i hi=>h.wide.at_ (i:=i) hi;have bK:=qd (BF tb gb e.key e.hash T mb mt kr iP mo a0 l0 m c W mM hP h64 (hM.below hB) hmt jW (hT.below hB) hz);have HW:=qd hW;have HB:=qd hB;have dU:=qd (fun ap fp fs hap V hV=>kI tb gb e.key e.hash T ap fp fs hap V hV);unfold jN at dU;rw[hsk]at dU bK;rw[hfr]at bK;simp only[Option.map_none,dI,kH,Option.getD_none,Option.isSome_none]at dU bK;unfold cZ aJ dJ at bK;unfold dJ aR at dU;unfold cZ aJ aR;clear hW hB h hM;go_in;go_upto_region 1 with fail;rw[←HW.out];go_wp2_with fail;refine(bK.out).mono ?_;rintro x w1 ⟨ap,fp,rfl,hap,hfp,hM1,hm1⟩;obtain rfl:=hfp i s rfl;go_upto_region 2 with fail;have hS2:=aj.new w1 199 #[.pointer (some ⟨tb,0,none⟩),.int .u64 (e.key:Int),.int .u64 (e.hash:Int),.pointer ap,.int .i64 (-1),.pointer (some ⟨gb,i*25,none⟩),.int .i64 (s:Int)];have hb2:=(Below.refl w1.heap.size w1).alloc (Nat.le_refl _) (.cells #[.pointer (some ⟨tb,0,none⟩),.int .u64 (e.key:Int),.int .u64 (e.hash:Int),.pointer ap,.int .i64 (-1),.pointer (some ⟨gb,i*25,none⟩),.int .i64 (s:Int)] 199)
 obtain⟨w2,hw2⟩:∃w2,w2=w1.alloc (.cells #[.pointer (some ⟨tb,0,none⟩),.int .u64 (e.key:Int),.int .u64 (e.hash:Int),.pointer ap,.int .i64 (-1),.pointer (some ⟨gb,i*25,none⟩),.int .i64 (s:Int)] 199):=⟨_,rfl⟩;rw[←hw2]at hS2 hb2⊢;clear hw2;have kD:=(mM.mod hm1 (by simp;omega) (by simp;omega)).below hb2;have hM2:=hM1.below hb2;have hE2:=(hE.mod hm1 (by simp;omega)).below hb2 (hE.mod hm1 (by simp;omega)).lt;have hm2:=((Mod.of_below HB.out [mb,tb,gb]).then (hm1.more (by simp))).then (Mod.of_below hb2 [mb,tb,gb]);obtain⟨sp0,sp1,sp2,sp3,sp4,sp5,sp6⟩:=hS2.c7;clear mM hM1 hm1 hE hb2;go_wp2_with fail;refine(dU.out ap _ _ (fun _ _ hh=>by cases hh) w2 kD).mono ?_;rintro x w3 ⟨rfl,hb3⟩;have hb4:=bX ((Below.refl w3.heap.size w3).alloc (Nat.le_refl _) (.cells #[.int .u64 0,.int .u64 0,.int .u64 0] 76)) hb3;have KH:=hS2.below hb4 hS2.lt;have hE4:=hE2.below hb4 hE2.lt;go_upto_region 5 with fail;obtain⟨w4,hw4⟩:∃w4,w4=w3.alloc (.cells #[.int .u64 0,.int .u64 0,.int .u64 0] 76):=⟨_,rfl⟩;rw[←hw4]at hb4 KH hE4
 try rw[←hw4]
 clear hw4 hb3 hS2 hE2;have Dw:=zH T.gs hP.pos e.key e.hash i s hfr
 have rU:s<8:=by have:=h8 i Dw.1;omega
 have jO:=qd (BD tb gb ap T i s e Dw.1 rU h64 Dw.2.2 hS hroom w4 (kD.below hb4));unfold dJ aR at jO;have Fp:=qd (hM2.below hb4);have HM5:=qd (hm2.then (Mod.of_below hb4 [mb,tb,gb]));clear kD hM2 hm2 hb4;obtain⟨sq0,sq1,sq2,sq3,sq4,sq5,sq6⟩:=KH.c7;obtain⟨eq0,eq1,eq2⟩:=hE4.c3;go_wp2_with fail;refine(jO.out).mono ?_;rintro x w5 ⟨rfl,rR,jP⟩;have HT5:=qd rR;have HM6:=qd (Fp.out.mod jP (by simp;omega));have HM7:=qd (HM5.out.then (jP.more (by simp)));clear rR jP;go_wp2;refine bodyPost_ret (v:= .tuple #[.bool true,.nilIface]) (by simp[results,Tryz.results274,go_sem]) rfl ⟨rfl,HT5.out,HM6.out,HM7.out⟩
section
variable {w : World} {base c n sz : Nat} {t : TypeId} {xs : List Value} {A : Option Addr} {l : PL}
theorem Fz {g i:Nat}(h:w.ownsRow base t sz (.slice (some ⟨g,0,none⟩) n c) n xs)(u:Value):
  (w.setCell ⟨g,i,none⟩ u).ownsRow base t sz (.slice (some ⟨g,0,none⟩) n c) n (xs.set i u)∧Mod [g] w (w.setCell ⟨g,i,none⟩ u):=by
 rcases h.2 with⟨h2,_⟩|⟨g',cap,cur,hv,hg,hh,hcap,hmax,hsz,htk⟩
 ·cases h2
 ·injection hv with hv _ hc
  injection hv with hv
  injection hv with hv _ _
  subst hv hc;have hB:aj w g t cur:=hh;refine⟨⟨by rw[List.length_set];exact h.1,.inr ⟨g,c,_,rfl,hg,hB.ak i u,hcap,hmax,by simpa using hsz, ?_⟩⟩,(Mod.refl [g] w).ak (.inl (by simp)) i u⟩;rw[Array.toList_setIfInBounds,List.take_set,htk]
theorem Ao (h:w.ownsRow base t sz (.slice A n c) n xs)(hn:0<n):∃g,A=some ⟨g,0,none⟩∧g<w.heap.size∧base≤g∧n≤c∧(∀i,w.frozen? ⟨g,i,none⟩=false):=by
 rcases h.2 with⟨h2,h0⟩|⟨g,cap,cur,hv,hg,hh,hcap,hmax,hsz,htk⟩
 ·omega
 ·injection hv with hv _ hc
  subst hv hc;exact⟨g,rfl,(Array.getElem?_eq_some_iff.1 hh).1,hg,hcap,fun i=>by simp[World.frozen?,hh]⟩
theorem VG {lo vb:Nat}{k v:Nat}{tv:TypeId}(ho:w.ownsRow base 37 2 (.slice A l.length c) l.length (l.flatMap aM))(hB:aj w vb tv #[.int .u64 (k:Int),.int .u64 (v:Int)])(hne:∀g,(Value.slice A l.length c).ownBlock=some g→vb≠g)(hlo:lo≤l.length)(hn:l.length≤100000)(hbw:base≤w.heap.size):
  Calls Tryz.prog 37 #[.slice A l.length c,.int .i64 (lo:Int),.slice (some ⟨vb,0,none⟩) 1 1] w (Gi base l.length (.slice A l.length c) ((l.take lo++(k,v)::l.drop lo).flatMap aM) w):=by
 have hxs:(l.take lo++(k,v)::l.drop lo).flatMap aM=(l.flatMap aM).take (lo*2)++([.int .u64 (k:Int),.int .u64 (v:Int)]++(l.flatMap aM).drop (lo*2)):=by
  rw[List.flatMap_append,List.flatMap_cons,H7,H8];rfl
 rw[hxs];by_cases he:lo=l.length
 ·subst he;have h1:=SX ho hB hn hbw;rw[List.take_of_length_le (by rw[fU];omega),List.drop_of_length_le (by rw[fU];omega),List.append_nil];exact h1
 ·obtain⟨g,rfl,_,_,hc,_⟩:=Ao ho (by omega);by_cases hr:l.length+1≤c
  ·exact Nw ho hB (hne g rfl) (by omega) hr (yU l)
  ·exact Qm ho hB (by omega) (by omega) (yU l) hn hbw
theorem Ap {most fb:Nat}{F:List Nat}(h:kM base w fb most F l)(hn:l.length≤90000)(key val:Nat)(hroom:om l key=false→l.length<most)(hm:most≤100000):
  Calls Tryz.prog 17 #[.pointer (some ⟨fb,0,none⟩),.int .u64 (key:Int),.int .u64 (val:Int)] w fun y w'=>y= .returned .nilIface∧Gh base w w' fb most F (gJ l key val):=by
 have HF:=qd (Jw h (by omega) key);have hput:=j6 h.oo key val;obtain⟨v,hB,ho,rfl,hb,ha⟩:=h;obtain⟨A,c,rfl⟩:=aU ho;have hty:=Ra ho hB (by decide);have hlow:=Js l key
 cases hi:om l key with
 |true=>
  obtain⟨u,hu,hg⟩:=(uz ha).1 hi
  have hpp:gJ l key val=l.set (gD l key) (key,val):=by unfold gJ;rw[if_pos hi]
  rw[hpp]at hput⊢;rw[hi]at HF;obtain⟨lo,hlo⟩:∃lo,lo=gD l key:=⟨_,rfl⟩;rw[←hlo]at HF hu hput⊢;have hll:lo<l.length:=(List.getElem?_eq_some_iff.1 hu).1;have hset:=Ve hll key val (by rw[hu];rfl);obtain⟨g,rfl,hgl,hbg,hcl,_⟩:=Ao ho (by omega)
  have hl':(lo:Int)<(l.length:Int):=by omega
  have hl0:(0:Int)≤(lo:Int):=by omega
  have HX:=qd (And.intro ho (And.intro hB (And.intro hty (And.intro hb (And.intro hput (And.intro hset hu))))));clear hi hg hlo ho hB hty hpp hput hset hroom ha hlow;go_in;go_wp2_with fail;refine HF.out.mono ?_;rintro y w1 ⟨rfl,hb1⟩;have ho1:=own_below HX.out.1 hb1 (Nat.le_refl _);have hB1:=HX.out.2.1.below hb1 HX.out.2.1.lt;have c1:=hB1.cell 1;simp only[gl]at c1;obtain⟨g2,off,hA2,afF,hc⟩:=(Reads.eO ho1).2 (by omega)
  injection hA2 with hA2
  injection hA2 with hA2 hA3 _
  subst hA2 hA3
  have r1:w1.cell? ⟨g,lo*2+1,none⟩=some (.int .u64 (u:Int)):=by have:=hc (lo*2+1) _ (dS HX.out.2.2.2.2.2.2 (by omega));rw[Nat.zero_add]at this;exact this
  have hfz:w1.frozen? ⟨g,lo*2+1,none⟩=false:=by
   obtain⟨g3,h3,_,_,_,h4⟩:=Ao ho1 (by omega)
   injection h3 with h3
   injection h3 with h3 _ _
   subst h3;exact h4 _
  have HB1:=qd (And.intro hb1 (And.intro ho1 hB1));clear hb1 ho1 hB1 hc;go_wp2;go_ret;refine⟨rfl,_,⟨_,HB1.out.2.2.far (p:=⟨g,lo*2+1,none⟩) (fun e=>HX.out.2.2.1 (by simp[Value.ownBlock,e])) _, ?_,rfl,HX.out.2.2.2.1,HX.out.2.2.2.2.1⟩,fun q hq=> .inl hq, ?_⟩
  ·have h1:=(Fz (i:=lo*2+1) HB1.out.2.1 (.int .u64 (val:Int))).1;rw[HX.out.2.2.2.2.2.1]at h1;rw[List.length_set];exact h1
  ·exact(Mod.of_below HB1.out.1 _).then ((Mod.refl _ _).ak (.inl (by simp[Value.ownBlock])) _ _)
 |false=>
  have hlm:=hroom hi
  have hpp:gJ l key val=l.take (gD l key)++(key,val)::l.drop (gD l key):=by unfold gJ;rw[if_neg (by rw[hi];simp)]
  rw[hpp]at hput⊢;rw[hi]at HF;obtain⟨lo,hlo⟩:∃lo,lo=gD l key:=⟨_,rfl⟩;rw[←hlo]at HF hput hlow⊢
  have hl':¬(most:Int)≤(l.length:Int):=by omega
  obtain⟨l2,hl2⟩:∃l2,l2=l.take lo++(key,val)::l.drop lo:=⟨_,rfl⟩
  have aar:l2.length=l.length+1:=by rw[hl2,List.length_append,List.length_cons,List.length_take,List.length_drop];omega
  rw[←hl2]at hput⊢;have HX:=qd (And.intro ho (And.intro hB (And.intro hty (And.intro hb (And.intro hput (And.intro hlow (And.intro hl2 aar)))))));clear hi hlo ho hB hty hpp hput hroom ha hlow hlm hl2 aar;go_in;go_wp2_with fail;refine HF.out.mono ?_;rintro y w1 ⟨rfl,hb1⟩;have ho1:=own_below HX.out.1 hb1 (Nat.le_refl _);have hB1:=HX.out.2.1.below hb1 HX.out.2.1.lt;obtain⟨c0,c1⟩:=hB1.c2;have HB1:=qd (And.intro hb1 (And.intro ho1 hB1));clear hb1 ho1 hB1;go_upto_region 5 with fail;go_region;go_upto_region 2 with fail;refine bU (F:=fun W=>Below w1.heap.size w1 W) (Below.refl _ _).drew ?_;rintro w2 hb2;have ho2:=own_below HB1.out.2.1 hb2 (Nat.le_refl _);have hB2:=HB1.out.2.2.below hb2 HB1.out.2.2.lt
  have hbs:base≤w2.heap.size:=by have:=HX.out.2.2.2.1;have:=hB2.lt;omega
  have hI:=fun(tv:TypeId)=>VG (lo:=lo) (k:=key) (v:=val) (w:=w2.alloc (.cells #[.int .u64 (key:Int),.int .u64 (val:Int)] tv)) (vb:=w2.heap.size) (ho2.alloc _) (aj.new w2 tv _) (fun g hg e=>by have:=(ho2.lt g hg).2;omega) HX.out.2.2.2.2.2.1 (by omega) (by simp;omega);rw[←HX.out.2.2.2.2.2.2.1]at hI;have HI:=qd hI;have HB2:=qd (And.intro (HB1.out.1.trans (hb2.mono HB1.out.1.size)) (And.intro ho2 hB2));replace c1:w2.cell? ⟨fb,1,none⟩=some (.slice A l.length c):=aA hb2 c1;clear hb2 ho2 hB2 hI HB1 c0;go_wp2_with fail;refine(HI.out _).mono ?_;rintro y w3 ⟨v',rfl,ho3,iZ,hs3⟩;obtain⟨A',c',rfl⟩:=aU ho3;have hlt:fb<w2.heap.size:=HB2.out.2.2.lt;have hB3:aj w3 fb 66 #[.int .i64 (most:Int),.slice A l.length c]:=(HB2.out.2.2.alloc _).mod iZ HX.out.2.2.1;have c1:=hB3.cell 1;have f1:=hB3.frozen 1;simp only[gl]at c1
  have hsz:w2.heap.size+1≤w3.heap.size:=by have:=iZ.size;simpa using this
  have acr:fb∉(Value.slice A' (l.length+1) c').ownBlock.toList:=fun hq=>(hs3 fb hq).elim HX.out.2.2.1 (fun k=>by simp at k;omega)
  have HY:=qd (show Gh base w (w3.setCell ⟨fb,1,none⟩ (.slice A' (l.length+1) c')) fb most (fb::(Value.slice A l.length c).ownBlock.toList) l2 from by
   have hm0:Mod (fb::(Value.slice A l.length c).ownBlock.toList) w w3:=((Mod.of_below HB2.out.1 _).alloc _).then (iZ.more (fun q hq=>List.mem_cons_of_mem _ hq));refine⟨_,⟨_,hB3.ak 1 _, ?_,rfl,HX.out.2.2.2.1,HX.out.2.2.2.2.1⟩,fun q hq=> ?_,hm0.then ((Mod.refl _ _).ak (.inl (by simp)) _ _)⟩
   ·have hx:=HX.out.2.2.2.2.2.2.2;refine⟨by rw[fU], ?_⟩;rw[hx];rcases ho3.2 with k|⟨g,cap,cur,hv3,k2,k3,k4⟩
    ·exact .inl k
    ·refine .inr ⟨g,cap,cur,hv3,k2, ?_,k4⟩;exact(Below.heap_setCell w3 ⟨fb,1,none⟩ _ g (fun e=>acr (by rw[hv3];simp[Value.ownBlock,e]))).trans k3
   ·rcases List.mem_cons.1 hq with rfl|hq
    ·exact .inl (by simp)
    ·rcases hs3 q hq with k|k
     ·exact .inl (List.mem_cons_of_mem _ k)
     ·refine .inr ?_;have h1:=HB2.out.1.size;simp at k
      omega)
  clear hB3 ho3 iZ hs3 acr;go_wp2;go_ret;exact⟨rfl,HY.out⟩
end
section
variable {B B' base c c' : Nat} {w : World} {l m : PL} {A A' : Option Addr}
theorem YQ {v:Value}(ho:w.ownsRow base 37 2 v l.length (l.flatMap aM))(hn:l.length≤100000):
  Calls Tryz.prog 22 #[v] w fun y w'=>∃v',y= .returned v'∧w'.ownsRow w.heap.size 37 2 v' l.length (l.flatMap aM)∧Below w.heap.size w w':=by
 have q22:∀(w:World) (a:Option Addr) (n c n' c':Nat),(binOp .eql 22 (.slice a n c) (.slice none n' c')).run Tryz.prog w= .ok (.bool a.isNone) w:=fun w a n c n' c'=>Lib.run_eql_slice_nil w _ _ a n c n' c' Tryz.underlying22
 have mixed:Tryz.prog.follows Departure.mixedOrders=true:=by kernel_rfl
 rcases ho.2 with⟨rfl,h0⟩|⟨g,cap,cur,rfl,hbg,hh,hcap,hmax,hsz,htk⟩
 ·obtain rfl:l=[]:=List.length_eq_zero_iff.1 h0;clear ho h0 hn;go_in;go_wp2;go_ret;exact⟨_,rfl,World.ownsRow_nil _ _ _ _,Below.refl _ _⟩
 ·obtain⟨i0,hi0,hz0,hz1,hz2⟩:=info_parts uP;have HI:=qd (And.intro hi0 (And.intro hz0 (And.intro hz1 hz2)))
  have HC:=qd (show∀(w2:World) (o:Obj),w2=w.alloc o→∀(j:Nat) (u:Value),(l.flatMap aM)[j]?=some u→w2.cell? ((⟨g,0,none⟩:Addr).add j)=some u from by
   rintro w2 o rfl j u hj
   have hadd:(⟨g,0,none⟩:Addr).add j=⟨g,j,none⟩:=by unfold Addr.add;split<;>simp_all
   rw[hadd];refine Lib.cell?_alloc_some _ ?_;show(match w.heap[g]? with|some (.cells cs _ _)=>cs[j]?|_=>none)=_;rw[hh];rw[←htk,List.getElem?_take]at hj;split at hj
   ·simpa using hj
   ·cases hj)
  have H1:=qd (yU l);have HL:=qd (fU l);clear hi0 hz0 hz1 hz2 ho hh htk hsz hmax hbg;go_in;go_wp2_with (at_builtin;refine wpList_append_own _ rfl _ _ 22 rfl w.heap.size 37 i0 _ 2 16 Tryz.underlying22 HI.out.1 HI.out.2.1 HI.out.2.2.1 HI.out.2.2.2 rfl (by omega) _ _ _ rfl (World.ownsRow_made w #[] 0 (Nat.le_refl _) (Nat.zero_le _) (by simp)) ⟨g,0,none⟩ l.length cap (l.flatMap aM) rfl HL.out (HC.out _ _ rfl) H1.out (by unfold maxLen;omega) (by omega) (by simp) ?_;intro v' w1 hown hgrow hnil;have HP:=qd (show w1.ownsRow w.heap.size 37 2 v' l.length (l.flatMap aM)∧Below w.heap.size w w1 from⟨by simpa using hown,((Below.refl _ w).alloc (Nat.le_refl _) _).grown hgrow (by simp) (by intro k hk;cases hk;exact Nat.le_refl _)⟩);clear hown hgrow hnil);go_ret;exact⟨_,rfl,HP.out⟩
theorem BG {most fb:Nat}{F:List Nat}(h:kM base w fb most F l)(hn:l.length≤100000):
  Calls Tryz.prog 7 #[.pointer (some ⟨fb,0,none⟩)] w fun y w'=>∃v',y= .returned v'∧w'.ownsRow w.heap.size 37 2 v' l.length (l.flatMap aM)∧Below w.heap.size w w':=by
 obtain⟨v,hB,ho,rfl,hb,ha⟩:=h;have HC:=qd (YQ ho hn);obtain⟨A,c,rfl⟩:=aU ho;have c1:=hB.cell 1;simp only[gl]at c1;clear hB ho ha;go_in;go_wp2_with fail;refine HC.out.mono ?_;rintro y w1 ⟨v',rfl,h1,h2⟩;have HP:=qd (And.intro h1 h2);clear h1 h2;go_wp2;go_ret;exact⟨_,rfl,HP.out⟩
theorem VH (x y:Nat×Nat)(W:World):(Op.equalIn 10000 37 (.agg #[.int .u64 (x.1:Int),.int .u64 (x.2:Int)]) (.agg #[.int .u64 (y.1:Int),.int .u64 (y.2:Int)])).run Tryz.prog W= .ok (decide (x=y)) W:=by
 have hS:Tryz.prog.underlying 37 =some (.struct (Tryz.prog.fieldsOf 37)):=by kernel_rfl
 have hp:Tryz.prog.stoodInHeld 37 =false:=by kernel_rfl
 rw[show(10000:Nat)=9999+1 from rfl,run_equalIn_agg W 9999 37 _ _ hS hp];simp only[Program.fieldsOf,Tryz.underlying37];go_simp
 by_cases h1:x.1=y.1<;>by_cases h2:x.2=y.2<;>simp[h1,h2,Prod.ext_iff]<;>omega
theorem YR (hl:Reads w B 2 A l.length (l.flatMap aM))(hm:Reads w B' 2 A' m.length (m.flatMap aM))(hn:l.length≤100000):
  Calls Tryz.prog 35 #[.slice A l.length c,.slice A' m.length c'] w fun y w'=>y= .returned (.bool (decide (l=m)))∧Below w.heap.size w w':=by
 have hgd:Tryz.prog.eqGuardType Tryz.prog.depth 37 =false:=by kernel_rfl
 by_cases hlen:l.length=m.length
 ·rw[←hlen]at hm⊢;have HL:=qd hl;have HM:=qd hm;have HB:=qd (Below.refl w.heap.size w);have HS:=qd (show∀t,t<0→l[t]?=m[t]? from fun t ht=>by omega);obtain⟨r,hr⟩:∃r,r=decide (l=m):=⟨_,rfl⟩;have HR:=qd hr;rw[←hr];clear hl hm hr;go_in;go_wp2;go_loopw [4,5,13] (fun _ _ v13 wr=>∃i:Nat,i≤l.length∧v13= .int .i64 (i:Int)∧Hid (∀t,t<i→l[t]?=m[t]?)∧Hid (Below w.heap.size w wr)) (fun _ _ v13 _=>l.length-(intOf v13).toNat)
  case atStart=>exact⟨0,by omega,rfl,HS,HB⟩
  case round=>
   clear HB HS;obtain⟨i,hi,rfl,HS,HB⟩:=hrel;by_cases hlt:i<l.length
   ·have hlt':(i:Int)<(l.length:Int):=by omega
    have hi0:(0:Int)≤(i:Int):=by omega
    have hwi:IntKind.i64.wrap ((i:Int)+1)=((i+1:Nat):Int):=by rw[IntKind.wrap_i64];omega
    obtain⟨x,hx⟩:∃x,l[i]?=some x:=⟨_,List.getElem?_eq_getElem hlt⟩;obtain⟨y,hy⟩:∃y,m[i]?=some y:=⟨_,List.getElem?_eq_getElem (by omega)⟩;obtain⟨g,off,hA,hgl,hc⟩:=HL.out.2 (by omega);obtain⟨g',off',hA',afG,hc'⟩:=HM.out.2 (by omega);have hcc:∀(b o:Nat) (u:Value),w.cell? ⟨b,o,none⟩=some u→wr.cell? ⟨b,o,none⟩=some u:=fun b o u h=>aA HB.out h;have r0:wr.cell? ⟨g,off+i*2,none⟩=some (.int .u64 (x.1:Int)):=hcc _ _ _ (hc (i*2+0) _ (dS hx (by omega)));have r1:wr.cell? ⟨g,off+i*2+1,none⟩=some (.int .u64 (x.2:Int)):=hcc _ _ _ (hc (i*2+1) _ (dS hx (by omega)));have s0:wr.cell? ⟨g',off'+i*2,none⟩=some (.int .u64 (y.1:Int)):=hcc _ _ _ (hc' (i*2+0) _ (dS hy (by omega)));have s1:wr.cell? ⟨g',off'+i*2+1,none⟩=some (.int .u64 (y.2:Int)):=hcc _ _ _ (hc' (i*2+1) _ (dS hy (by omega)));have heq:=VH x y;subst hA hA';have Cy:=qd (show l.length-(i+1)<l.length-i by omega);have HXY:=qd (And.intro hx hy);clear hc hc' hcc hx hy;obtain⟨q,hq⟩:∃q,q=decide (x=y):=⟨_,rfl⟩;have HQ:=qd hq;rw[←hq]at heq;clear hq;go_upto_region 6 with fail;go_region;refine bU (F:=fun W=>Below w.heap.size w W) HB.out.drew ?_;intro w2 hb2;have HB2:=qd hb2;clear hb2
    cases q with
    |true=>
     have HS2:=qd (show∀t,t<i+1→l[t]?=m[t]? from fun t ht=>by
      by_cases h:t<i
      ·exact HS.out t h
      ·obtain rfl:t=i:=by omega
       rw[HXY.out.1,HXY.out.2,of_decide_eq_true HQ.out.symm])
     go_wp2;go_roundw
     all_goals first|exact⟨i+1,by omega,rfl,HS2,HB2⟩|(simp[intOf];have:=Cy.out;omega)
    |false=>
     have HN:=qd (show r=false from by
      rw[HR.out];refine decide_eq_false fun e=> ?_;have h1:=of_decide_eq_false HQ.out.symm;have h2:=HXY.out.1;rw[e,HXY.out.2]at h2
      exact h1 (Option.some.inj h2).symm)
     go_wp2;go_ret;exact⟨by rw[HN.out];rfl,HB2.out⟩
   ·obtain rfl:i=l.length:=by omega
    have hlt':¬(l.length:Int)<(l.length:Int):=by omega
    have HN:=qd (show r=true from by
     rw[HR.out];refine decide_eq_true (List.ext_getElem? fun t=> ?_);by_cases h:t<l.length
     ·exact HS.out t h
     ·rw[List.getElem?_eq_none (by omega),List.getElem?_eq_none (by omega)])
    go_wp2;go_ret;exact⟨by rw[HN.out];rfl,HB.out⟩
 ·have hlen':¬(l.length:Int)=(m.length:Int):=by omega
  clear hl hm;rw[show decide (l=m)=false from decide_eq_false (fun e=>hlen (by rw[e]))];go_in;go_wp2;go_ret;exact⟨rfl,Below.refl _ _⟩
theorem abk (hl:Reads w B 2 A l.length (l.flatMap aM))(hm:Reads w B' 2 A' m.length (m.flatMap aM))(hn:l.length≤100000):
  Calls Tryz.prog 15 #[.slice A l.length c,.slice A' m.length c'] w fun y w'=>y= .returned (.bool (decide (l=m)))∧Below w.heap.size w w':=by
 have HE:=qd (YR (c:=c) (c':=c') hl hm hn);obtain⟨r,hr⟩:∃r,r=decide (l=m):=⟨_,rfl⟩;rw[←hr]at HE⊢;clear hl hm hr;go_in;go_wp2_with fail;refine HE.out.mono ?_;rintro y w1 ⟨rfl,hb1⟩;have HB:=qd hb1;clear hb1;go_wp2;go_ret;exact⟨rfl,HB.out⟩
end
theorem Dx {g:Nat}{t:TypeId}:∀(vs:List Value) (o:Nat) (cur:Array Value) (w:World),w.heap[g]?=some (.cells cur t (0,0))→o+vs.length≤cur.size→w.setCells g o vs=w.setRow g (splice cur.toList o vs).toArray
 | [],o,cur,w,hg,_=>by
  rw[show(splice cur.toList o ([]:List Value)).toArray=cur from by simp[splice],setRow_self w g cur t (0,0) hg];rfl
 |v::r,o,cur,w,hg,hl=>by
  have ho:o<cur.size:=by simp at hl;omega
  rw[World.setCells,setCell_eq_setRow w g o cur t (0,0) v hg,Dx r (o+1) (cur.setIfInBounds o v) _ (setRow_heap w g cur _ t _ hg) (by simp at hl⊢;omega),setRow_setRow];congr 2;have e:=list_seg_step cur.toList o v r (by simp at hl⊢;omega);unfold splice;rw[Array.toList_setIfInBounds,←List.append_assoc,←List.append_assoc,e];simp
theorem Mf {P:Program}(w:World)(t e ty:TypeId)(z:Value)(ht:P.underlying t=some (.slice e))(hv:(zeroValue e).run P w= .ok z w)(g o c:Nat)(cur:Array Value)(tt:TypeId)(hg:w.heap[g]?=some (.cells cur tt (0,0)))(hf:o+z.cells.size≤cur.size)(h1:∀v∈z.cells.toList,v.oneCell'=true):
  (Builtin.clear_ #[t] ty #[.slice (some ⟨g,o,none⟩) 1 c]).run P w= .ok (.tuple #[]) (w.setRow g (splice cur.toList o z.cells.toList).toArray):=by
 have hz:(Builtin.zeroCells z.cells 1).toList=z.cells.toList:=by
  simp only[Builtin.zeroCells,Nat.one_mul];apply List.ext_getElem?;intro i;by_cases hi:i<z.cells.size
  ·simp[hi,Nat.mod_eq_of_lt hi]
  ·simp[hi]
 have hst:=run_storeCells_at P g o tt z.cells.toList 0 cur w hg (by simpa using hf) h1;simp only[Nat.add_zero]at hst;simp[Builtin.clear_,run_underlying ht,hv,hz,hst,splice]
theorem Qs {base n g c i:Nat}{xs:List Value}{w:World}(ho:w.ownsRow base 37 2 (.slice (some ⟨g,0,none⟩) n c) n xs)(hi:i<n)(hn:n≤100000)(h1x:∀v∈xs,v.oneCell'=true):
  Calls Tryz.prog 39 #[.slice (some ⟨g,0,none⟩) n c,.int .i64 (i:Int),.int .i64 ((i+1:Nat):Int)] w fun e w'=>e= .returned (.slice (some ⟨g,0,none⟩) (n-1) c)∧w'.ownsRow base 37 2 (.slice (some ⟨g,0,none⟩) (n-1) c) (n-1) (xs.take (i*2)++xs.drop ((i+1)*2))∧Mod [g] w w':=by
 have hxl:=ho.1
 obtain⟨cap,cur,hbg,hh,hcc,hmax,hsz,htk,rfl⟩:∃cap cur,base≤g∧w.heap[g]?=some (.cells cur 37 (0,0))∧n≤cap∧cap≤maxLen∧cur.size=cap*2∧cur.toList.take (n*2)=xs∧cap=c:=by
  rcases ho.2 with⟨h,_⟩|⟨g',cap,cur,hv,h1,h2,h3,h4,h5,h6⟩
  ·cases h
  ·injection hv with hv _ hc
   injection hv with hv
   injection hv with hv _ _
   subst hv;exact⟨cap,cur,h1,h2,h3,h4,h5,h6,hc.symm⟩
 obtain⟨i0,hi0,hz0,hz1,hz2⟩:=info_parts uP;obtain⟨news,hnews⟩:∃news,news=xs.drop ((i+1)*2):=⟨_,rfl⟩
 have hlen:news.length=(n-(i+1))*2:=by rw[hnews,List.length_drop,hxl];omega
 have hcur:∀(j:Nat) (u:Value),xs[j]?=some u→w.drew.cell? ⟨g,j,none⟩=some u:=fun j u hu=>by
  show(match w.heap[g]? with|some (.cells cs _ _)=>cs[j]?|_=>none)=_;rw[hh];rw[←htk,List.getElem?_take]at hu;split at hu
  ·simpa using hu
  ·cases hu
 obtain⟨A,hA,hsrc⟩:∃A:Addr,(if cap=i+1 then some (⟨g,0,none⟩:Addr)else some ⟨g,(i+1)*2,none⟩)=some A∧Hid (∀t u,news[t]?=some u→w.drew.cell? (A.add t)=some u):=by
  by_cases h:cap=i+1
  ·refine⟨⟨g,0,none⟩,by simp[h],fun t u hu=> ?_⟩
   have h0:news.length=0:=by rw[hlen];omega
   rw[List.length_eq_zero_iff.1 h0]at hu;simp at hu
  ·refine⟨⟨g,(i+1)*2,none⟩,by simp[h],fun t u hu=> ?_⟩;rw[Addr.add_lit];refine hcur _ _ ?_;rw[hnews,List.getElem?_drop]at hu;exact hu
 have s1:=qd hlen;have s2:Hid (∀u∈news,u.oneCell'=true):=fun u hu=>h1x u (by rw[hnews]at hu;exact List.mem_of_mem_drop hu)
 have s3:Hid (∀t,t<news.length→(w.drew.cell? ⟨g,0+i*2+t,none⟩).isSome=true∧w.drew.frozen? ⟨g,0+i*2+t,none⟩=false):=by
  intro t ht;rw[hlen]at ht;have hx:xs[0+i*2+t]?=some (xs[0+i*2+t]'(by omega)):=List.getElem?_eq_getElem _;refine⟨by rw[hcur _ _ hx];rfl, ?_⟩;have hhd:w.drew.heap[g]?=some (.cells cur 37 (0,0)):=hh;simp[World.frozen?,hhd]
 obtain⟨L1,hL1⟩:∃L1,L1=splice cur.toList (0+i*2) news:=⟨_,rfl⟩
 have hl1:L1.length=cap*2:=by rw[hL1,lJ (by rw[hlen,Array.length_toList,hsz];omega),Array.length_toList,hsz]
 have hW1:w.drew.setCells g (0+i*2) news=w.drew.setRow g L1.toArray:=by rw[hL1];exact Dx news _ cur w.drew hh (by rw[hlen,hsz];omega)
 obtain⟨W1,Tv⟩:∃W1,W1=w.drew.setCells g (0+i*2) news:=⟨_,rfl⟩
 have Gj:W1.heap[g]?=some (.cells L1.toArray 37 (0,0)):=by rw[Tv,hW1];exact setRow_heap w.drew g cur _ _ _ hh
 obtain⟨L2,hL2⟩:∃L2,L2=splice L1 ((n-1)*2) [Value.int .u64 0,.int .u64 0]:=⟨_,rfl⟩
 have hcl:∀ty c',(Builtin.clear_ #[22] ty #[.slice (some ⟨g,(n-1)*2,none⟩) 1 c']).run Tryz.prog W1= .ok (.tuple #[]) (W1.setRow g L2.toArray):=fun ty c'=>by
  rw[hL2];have:=Mf (P:=Tryz.prog) W1 22 37 ty (.agg #[.int .u64 0,.int .u64 0]) Tryz.underlying22 (by kernel_rfl) g ((n-1)*2) c' L1.toArray 37 Gj (by simp[Value.cells,hl1];omega) (by intro v hv;simp[Value.cells]at hv;rw[hv];rfl);simpa[Value.cells]using this
 have yV:L2.take ((n-1)*2)=xs.take (i*2)++xs.drop ((i+1)*2):=by
  apply List.ext_getElem?;intro j
  have hcl:cur.toList.length=cap*2:=by rw[Array.length_toList,hsz]
  by_cases hj:j<(n-1)*2
  ·rw[List.getElem?_take_of_lt hj,hL2,nH (by omega),if_pos hj,hL1,nH (by omega)];by_cases h1:j<i*2
   ·rw[if_pos (by omega),List.getElem?_append_left (by rw[List.length_take];omega),List.getElem?_take_of_lt h1,←htk,List.getElem?_take_of_lt (by omega)]
   ·rw[if_neg (by omega),if_pos (by rw[hlen];omega),List.getElem?_append_right (by rw[List.length_take];omega),hnews];congr 1;rw[List.length_take];omega
  ·rw[List.getElem?_eq_none (by rw[List.length_take];omega),List.getElem?_eq_none (by rw[List.length_append,List.length_take,List.length_drop];omega)]
 have hl2:L2.length=cap*2:=by rw[hL2,lJ (by rw[hl1];simp;omega),hl1]
 have HFin:=qd (show(W1.setRow g L2.toArray).ownsRow base 37 2 (.slice (some ⟨g,0,none⟩) (n-1) cap) (n-1) (xs.take (i*2)++xs.drop ((i+1)*2))∧Mod [g] w (W1.setRow g L2.toArray)from by
  have hr:=Bq (base:=base) (n:=n-1) (cur':=L2.toArray) (xs:=xs.take (i*2)++xs.drop ((i+1)*2)) Gj hbg (by omega) hmax (by simpa using hl2) (by simpa using yV);refine⟨hr.1,((Mod.of_below (Below.refl w.heap.size w).drew [g]).then ?_).then hr.2⟩;rw[Tv,hW1]
  exact⟨rfl,rfl,rfl,by simp[World.setRow],fun k hk hne=>setRow_other w.drew g k _ (fun e=>hne (by simp[e]))⟩)
 have mixed:Tryz.prog.follows Departure.mixedOrders=true:=by kernel_rfl
 have hic:i≤cap:=by omega
 have hjc:i+1≤cap:=by omega
 have hij:¬((i:Int)=((i+1:Nat):Int)):=by omega
 have hin:i+1≤n:=by omega
 have hb1:(0:Int)≤(i:Int)+1:=by omega
 have hb2:(i:Int)+1≤(n:Int):=by omega
 have hb3:n-1≤n:=by omega
 have hb4:n-(n-1)=1:=by omega
 have hb5:¬(cap=n-1):=by omega
 have hW:Hid (W1=w.drew.setCells g (0+i*2) news):=Tv
 have hn1:i+(n-(i+1))=n-1:=by omega
 clear hW1 Tv Gj hL1 hL2 hl1 hl2 yV hh htk hsz hcur hnews hlen hxl ho h1x hmax;go_in;go_upto_region 5 with fail;go_region_law_o (refine step_append_room rfl (.tmp 22) (.tmp 25) 22 rfl 37 i0 2 Tryz.underlying22 hi0 hz1 g 0 i cap (by simp[Act.eval,Act.put]) A (n-(i+1)) (cap-(i+1)) news (by simp[Act.eval,Act.put]) s1.out hsrc.out s2.out (by omega) s3.out ?_;rw[←hW.out]);go_wp2;go_ret;exact⟨rfl,HFin.out⟩
theorem Qt (l:PL)(i:Nat):(l.flatMap aM).take (i*2)++(l.flatMap aM).drop ((i+1)*2)=(l.eraseIdx i).flatMap aM:=by
 rw[H7,H8,←List.flatMap_append,List.eraseIdx_eq_take_drop_succ]
theorem VI {base most fb:Nat}{F:List Nat}{w:World}{l:PL}(h:kM base w fb most F l)(hn:l.length≤90000)(key:Nat):
  Calls Tryz.prog 21 #[.pointer (some ⟨fb,0,none⟩),.int .u64 (key:Int)] w fun y w'=>y= .returned (.bool (aS l key).isSome)∧Gh base w w' fb most F (qY l key):=by
 have HF:=qd (Jw h (by omega) key);have hdel:=Ba h.oo key;have hg:=zX h.oo key;obtain⟨v,hB,ho,rfl,hb,ha⟩:=h;obtain⟨A,c,rfl⟩:=aU ho;have hty:=Ra ho hB (by decide);rw[←hg]
 cases hi:om l key with
 |false=>
  rw[hi]at HF
  have hd:qY l key=l:=by unfold qY;rw[if_neg (by rw[hi];simp)]
  rw[hd]at hdel⊢;have HX:=qd (show∀w1,Below w.heap.size w w1→Gh base w w1 fb most (fb::(Value.slice A l.length c).ownBlock.toList) l from fun w1 hb1=>⟨_,⟨_,hB.below hb1 hB.lt,own_below ho hb1 (Nat.le_refl _),rfl,hb,ha⟩,fun q hq=> .inl hq,Mod.of_below hb1 _⟩);clear hi hg hB ho hty hd hdel ha hb;go_in;go_wp2_with fail;refine HF.out.mono ?_;rintro y w1 ⟨rfl,hb1⟩;have HY:=qd (HX.out w1 hb1);clear hb1;go_wp2;go_ret;exact⟨rfl,HY.out⟩
 |true=>
  obtain⟨u,hu,_⟩:=(uz ha).1 hi
  have hpp:qY l key=l.eraseIdx (gD l key):=by unfold qY;rw[if_pos hi]
  rw[hpp]at hdel⊢;rw[hi]at HF;obtain⟨lo,hlo⟩:∃lo,lo=gD l key:=⟨_,rfl⟩;rw[←hlo]at HF hu hdel⊢;have hll:lo<l.length:=(List.getElem?_eq_some_iff.1 hu).1;obtain⟨g,rfl,hgl,hbg,hcl,_⟩:=Ao ho (by omega)
  have hwl:IntKind.i64.wrap ((lo:Int)+1)=((lo+1:Nat):Int):=by rw[IntKind.wrap_i64];omega
  have HX:=qd (And.intro ho (And.intro hB (And.intro hty (And.intro hb hdel))));clear hi hg hlo ho hB hty hpp hdel ha hu;go_in;go_wp2_with fail;refine HF.out.mono ?_;rintro y w1 ⟨rfl,hb1⟩;have ho1:=own_below HX.out.1 hb1 (Nat.le_refl _);have hB1:=HX.out.2.1.below hb1 HX.out.2.1.lt;have c1:=hB1.cell 1;simp only[gl]at c1;have hD:=Qs ho1 hll (by omega) (yU l);rw[Qt]at hD;have HD:=qd hD;have HB1:=qd (And.intro hb1 hB1);clear hb1 ho1 hB1 hD;go_wp2_with fail;refine HD.out.mono ?_;rintro y w2 ⟨rfl,ho2,hm2⟩;have hB2:=HB1.out.2.mod hm2 (fun hq=>HX.out.2.2.1 (by simpa[Value.ownBlock]using hq));have c1:=hB2.cell 1;have f1:=hB2.frozen 1;simp only[gl]at c1
  have HY:=qd (show Gh base w (w2.setCell ⟨fb,1,none⟩ (.slice (some ⟨g,0,none⟩) (l.length-1) c)) fb most (fb::(Value.slice (some ⟨g,0,none⟩) l.length c).ownBlock.toList) (l.eraseIdx lo)from by
   have hlen:(l.eraseIdx lo).length=l.length-1:=List.length_eraseIdx_of_lt hll;refine⟨_,⟨_,hB2.ak 1 _, ?_,rfl,HX.out.2.2.2.1,HX.out.2.2.2.2⟩,fun q hq=> .inl hq, ?_⟩
   ·rw[hlen];have iZ:Mod [fb] w2 (w2.setCell ⟨fb,1,none⟩ (.slice (some ⟨g,0,none⟩) (l.length-1) c)):=(Mod.refl _ _).ak (.inl (by simp)) _ _;refine⟨ho2.1, ?_⟩;rcases ho2.2 with k|⟨g',cap,cur,h1,h2,h3,h4⟩
    ·exact .inl k
    ·refine .inr ⟨g',cap,cur,h1,h2, ?_,h4⟩
     rw[iZ.block g' (Array.getElem?_eq_some_iff.1 h3).1 (fun hq=>HX.out.2.2.1 (by
      have:g'=g:=by injection h1 with h1;injection h1 with h1;injection h1 with h1 _ _;exact h1.symm
      simp only[List.mem_singleton]at hq
      simp[Value.ownBlock,←hq,this]))]
     exact h3
   ·exact(((Mod.of_below HB1.out.1 _).then (hm2.more (fun q hq=>by simp at hq;subst hq;simp[Value.ownBlock]))).then ((Mod.refl _ _).ak (.inl (by simp)) _ _)))
  clear hB2 ho2 hm2;go_wp2;go_ret;exact⟨rfl,HY.out⟩
def qw (p:Int)(a b:Nat):Nat:=if p=2 then b else if p=3 then(a+b) % 18446744073709551616 else if p=4 then min a b else if p=5 then max a b else if p=6 then 0 else a
def xQ (p:Int):Bool:=decide (p≠6)
theorem JD {p:Int}{a b:Nat}(ha:a<18446744073709551616)(hb:b<18446744073709551616):qw p a b<18446744073709551616:=by
 unfold qw;split
 ·exact hb
 ·split
  ·omega
  ·split
   ·omega
   ·split
    ·omega
    ·split
     ·decide
     ·exact ha
theorem Iw (p:Int)(a b:Nat)(ha:a<18446744073709551616)(hb:b<18446744073709551616)(w:World):
  Calls Tryz.prog 20 #[.int .u64 (a:Int),.int .u64 (b:Int),.int .i64 p] w fun y w'=>y= .returned (.tuple #[.int .u64 (qw p a b:Int),.bool (xQ p)])∧w=w':=by
 by_cases h2:p=2
 ·subst h2;go_in;go_wp2;refine bodyPost_ret (v:= .tuple #[.int .u64 (b:Int),.bool true]) (by simp[results,Tryz.results20,go_sem]) rfl ⟨by simp[qw,xQ],rfl⟩
 by_cases h3:p=3
 ·subst h3
  have hs:IntKind.u64.wrap ((a:Int)+(b:Int))=(((a+b) % 18446744073709551616:Nat):Int):=by rw[IntKind.wrap_u64];omega
  go_in;go_wp2;refine bodyPost_ret (v:= .tuple #[.int .u64 (((a+b) % 18446744073709551616:Nat):Int),.bool true]) (by simp[results,Tryz.results20,go_sem]) rfl ⟨by simp[qw,xQ],rfl⟩
 by_cases h4:p=4
 ·subst h4;go_in;go_wp2;refine bodyPost_ret (v:= .tuple #[.int .u64 (min (a:Int) (b:Int)),.bool true]) (by simp[results,Tryz.results20,go_sem]) rfl ⟨?_,rfl⟩;rw[show qw 4 a b=min a b from rfl,show((min a b:Nat):Int)=min (a:Int) (b:Int) by omega];rfl
 by_cases h5:p=5
 ·subst h5;go_in;go_wp2;refine bodyPost_ret (v:= .tuple #[.int .u64 (max (a:Int) (b:Int)),.bool true]) (by simp[results,Tryz.results20,go_sem]) rfl ⟨?_,rfl⟩;rw[show qw 5 a b=max a b from rfl,show((max a b:Nat):Int)=max (a:Int) (b:Int) by omega];rfl
 by_cases h6:p=6
 ·subst h6;go_in;go_wp2;refine bodyPost_ret (v:= .tuple #[.int .u64 0,.bool false]) (by simp[results,Tryz.results20,go_sem]) rfl ⟨rfl,rfl⟩
 ·have hv:qw p a b=a:=by unfold qw;rw[if_neg h2,if_neg h3,if_neg h4,if_neg h5,if_neg h6]
  have hs:xQ p=true:=by unfold xQ;simp[h6]
  rw[hv,hs];go_in;go_wp2;refine bodyPost_ret (v:= .tuple #[.int .u64 (a:Int),.bool true]) (by simp[results,Tryz.results20,go_sem]) rfl ⟨rfl,rfl⟩
def oK:List (List UInt8):=[[],[107,101,101,112],[116,97,107,101],[115,117,109],[108,101,97,115,116],[109,111,115,116],[111,116,104,101,114]]
def mg (w:World):Prop:=∀k,k<7→w.cell? ⟨0,k,none⟩=some (.string ⟨(oK.getD k []).toArray⟩)
theorem mg.below {w w':World}(h:mg w)(hb:Below w.heap.size w w'):mg w':=fun k hk=>aA hb (h k hk)
def jG (p:Int):List UInt8:=if 1≤p∧p≤6 then oK.getD p.toNat []else []
theorem wR (p:Int)(w:World)(hW:mg w):
  Calls Tryz.prog 10 #[.int .i64 p] w fun y w'=>y= .returned (.string ⟨(jG p).toArray⟩)∧w=w':=by
 by_cases h:1≤p∧p≤6
 ·obtain⟨k,rfl⟩:∃k:Nat,p=(k:Int):=⟨p.toNat,by omega⟩;have hk:=hW k (by omega);obtain⟨s,hs⟩:∃s:ByteArray,s=⟨(oK.getD k []).toArray⟩:=⟨_,rfl⟩
  have hv:(⟨(jG (k:Int)).toArray⟩:ByteArray)=s:=by rw[hs];unfold jG;rw[if_pos h];rfl
  rw[←hs]at hk;rw[hv]
  have h1:¬(k:Int)<1:=by omega
  have h2:¬(6:Int)<(k:Int):=by omega
  have h3:(0:Int)≤(k:Int):=by omega
  have h4:(k:Int)<7:=by omega
  clear hs hv hW h;go_in;go_wp2;go_ret;exact⟨rfl,rfl⟩
 ·have hv:jG p=[]:=by unfold jG;rw[if_neg h]
  rw[hv];clear hW hv;by_cases h1:p<1
  ·go_in;go_wp2;go_ret;exact⟨rfl,rfl⟩
  ·have h2:(6:Int)<p:=by omega
   clear h;go_in;go_wp2;go_ret;exact⟨rfl,rfl⟩
end Go.Proofs.YtbfpfgfgfjhpfaaGreatDoor
