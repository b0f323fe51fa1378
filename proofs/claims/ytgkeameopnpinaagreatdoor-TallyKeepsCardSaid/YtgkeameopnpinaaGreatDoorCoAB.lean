/- A table's Find, Put, Delete by their contracts. -/
import Derived.Test.YtgkeameopnpinaaGreatDoorTabT
import Derived.Test.YtgkeameopnpinaaGreatDoorSqM
import Derived.Test.YtgkeameopnpinaaGreatDoorLaneP
import Derived.Test.YtgkeameopnpinaaGreatDoorCoO
import Derived.Test.YtgkeameopnpinaaGreatDoorTabS
namespace Go.Proofs.YtgkeameopnpinaaGreatDoor
set_option maxRecDepth 100000
set_option maxHeartbeats 4000000
open Go.RowKit bY Go
theorem dA {p F:World→Prop}{w:World}(h:F w)(h2:∀v,F v→p v):p w:=h2 w h
theorem fG.below {w w':World}(h:fG w)(hb:Below w.heap.size w w'):fG w':=fun i hi=>aD hb (h i hi)
theorem fG.mod {S:List Nat}{w w':World}(h:fG w)(hm:Mod S w w')(hs:14 ∉S):fG w':=fun i hi=>
 (hm.cell_ (p:=⟨14,oq i,none⟩) (World.block_lt_of_cell? w _ (h i hi)) hs).trans (h i hi)
def gN (gs:Tab)(key hash:Nat):Option av:=(aI gs key hash).1.map fun x=>(aF gs x.1 x.2).ent
def eO (o:Option av):Value:= .tuple #[aO (o.getD ⟨0,0,0⟩),.bool o.isSome]
theorem gy (tb gb key hash:Nat)(T:aB)(ap fp:Option Addr)(fs:Int)(hap:gW gb (aI T.gs key hash).1 ap)(w:World)(h:TabAt w tb gb T):
  Calls Tryz.prog 144 #[bH tb key hash ap (bK (aI T.gs key hash).1) fp fs] w fun x w'=>x= .returned (eO (gN T.gs key hash))∧Below w.heap.size w w':=by
 unfold gN eO
 cases hs:(aI T.gs key hash).1 with
 |none=>exact Fw tb key hash ap fp fs w
 |some x=>
  obtain⟨i,s⟩:=x;obtain⟨e,h1,_,h3,h4⟩:=tH hs;obtain rfl:=hap i s hs;have:=Fx tb key hash gb fp fs T i s h3 (by have:=h.wide.at_ h3;omega) e h1 w h;simpa[bK,h1,Slot.ent]using this
theorem Qs (tb gb:Nat)(T:aB)(mb:Nat)(mt:TypeId)(gF eD:List Value)(mo:Nat)(a0 l0:aZ)(m:Int)(c:aZ)(key hash:Nat)(w:World)(h:TabAt w tb gb T)(hP:Pw T.gs.length)(h64:hash<18446744073709551616)(hM:Met w mb mt gF eD mo a0 l0 m)(hmt:mb≠tb)(fZ:mb≠gb)(hT:fG w)(hz:14 ≠mb):
  Calls Tryz.prog 121 #[bP tb,aG (some ⟨mb,mo,none⟩) c,nU key,nU hash] w fun x w'=>x= .returned (eO (gN T.gs key hash))∧Met w' mb mt gF eD mo (eB a0 c (aI T.gs key hash).2.2) (eB l0 c (aI T.gs key hash).2.2) m∧Mod [mb] w w':=by
 obtain⟨W,hW,hB,hL,hD⟩:=jZ w 163 #[.pointer (some ⟨mb,mo,none⟩),.int .i64 c.p,.int .i64 c.v,.int .i64 c.u] 159 #[.int .u64 0,.int .u64 0,.int .u64 0];obtain⟨Iw,Iy,Iz,IB⟩:=hL.c4;have hml:=hM.lt;have lu:=h.below hB;have aV:=qd (qQ tb gb key hash T mb mt gF eD mo a0 l0 m c W lu hP h64 (hM.below hB) hmt fZ (hT.below hB) hz);have HW:=qd hW;have HB:=qd hB;have bM:=qd (fun ap fp fs hap V hV=>gy tb gb key hash T ap fp fs hap V hV);unfold bP aG bH at aV;unfold bH eO aO at bM;unfold bP aG eO aO;clear hW hB h hM;obtain⟨fe,hfe⟩:∃fe,fe=(gN T.gs key hash).getD ⟨0,0,0⟩:=⟨_,rfl⟩;obtain⟨fb,l9⟩:∃fb,fb=(gN T.gs key hash).isSome:=⟨_,rfl⟩;rw[←hfe,←l9]at bM⊢;clear hfe l9;go_in;go_upto_region 1 with fail;rw[←HW.out];go_wp2_with fail;refine(aV.out).mono ?_;rintro x w1 ⟨ap,fp,rfl,hap,hfp,hM1,hm1⟩;have R8:=qd hM1;have hD1:=hD.mod hm1 (by simp;omega);have yQ:=qd (bM.out ap fp (bK (aI T.gs key hash).2.1) hap w1 (lu.mod hm1 (by simp;omega) (by simp;omega)));clear hM1 hap hfp hD lu;go_wp2_with fail;refine(yQ.out).mono ?_;rintro x w2 ⟨rfl,hb2⟩;have hD2:=hD1.below hb2 hD1.lt;obtain⟨d0,d1,d2⟩:=hD2.c3;obtain⟨f0,f1,f2⟩:=hD2.f3;have hM2:=R8.out.below hb2;have hm2:=((Mod.of_below HB.out [mb]).then hm1).then (Mod.of_below hb2 [mb]);have hlw:=hD1.lt;have gB:=((hm2.ak (b:=w.heap.size+1) (.inr (by omega)) 0 (nU fe.key)).ak (b:=w.heap.size+1) (.inr (by omega)) 1 (nU fe.val)).ak (b:=w.heap.size+1) (.inr (by omega)) 2 (nU fe.hash)
 have hne:mb≠w.heap.size+1:=by omega
 have HP:=qd (And.intro (show Met _ mb mt gF eD mo _ _ m from⟨hM2.len,((hM2.blk.far (p:=⟨w.heap.size+1,0,none⟩) hne (nU fe.key)).far (p:=⟨w.heap.size+1,1,none⟩) hne (nU fe.val)).far (p:=⟨w.heap.size+1,2,none⟩) hne (nU fe.hash)⟩) gB);clear hM2 hm2 gB hb2 hm1 hD1 hD2;go_wp2;refine bodyPost_ret (v:= .tuple #[.agg #[nU fe.key,nU fe.val,nU fe.hash],.bool fb]) ?_ rfl ⟨rfl,HP.out.1,HP.out.2⟩;simp[results,Tryz.results121,go_sem,d0,d1,d2]
theorem JY (tb gb:Nat)(T:aB)(mb:Nat)(mt:TypeId)(gF eD:List Value)(mo:Nat)(a0 l0:aZ)(m:Int)(c:aZ)(e:av)(w:World)(h:TabAt w tb gb T)(hP:Pw T.gs.length)(h64:e.hash<18446744073709551616)(hM:Met w mb mt gF eD mo a0 l0 m)(hmt:mb≠tb)(fZ:mb≠gb)(hT:fG w)(hz:14 ≠mb)(hsk:(aI T.gs e.key e.hash).1=none)(i s:Nat)(hfr:(aI T.gs e.key e.hash).2.1=some (i,s))(hS:Small T)(hroom:T.live+T.bS+1≤7*(T.gs.length:Int)):
  Calls Tryz.prog 291 #[bP tb,aG (some ⟨mb,mo,none⟩) c,aO e] w fun x w'=>x= .returned (.tuple #[.bool true,.nilIface])∧TabAt w' tb gb (jf T i s e)∧Met w' mb mt gF eD mo (eB a0 c (aI T.gs e.key e.hash).2.2) (eB l0 c (aI T.gs e.key e.hash).2.2) m∧Mod [mb,tb,gb] w w':=by
 obtain⟨W,hW,hB,hL,hE⟩:=jZ w 163 #[.pointer (some ⟨mb,mo,none⟩),.int .i64 c.p,.int .i64 c.v,.int .i64 c.u] 159 #[nU e.key,nU e.val,nU e.hash];obtain⟨Iw,Iy,Iz,IB⟩:=hL.c4;obtain⟨e0,e1,e2⟩:=hE.c3;have hml:=hM.lt;have htl:=h.aR;have hgl:=h.aS;have lu:=h.below hB;have h8:=fun i hi=>h.wide.at_ (i:=i) hi;have aV:=qd (qQ tb gb e.key e.hash T mb mt gF eD mo a0 l0 m c W lu hP h64 (hM.below hB) hmt fZ (hT.below hB) hz);have HW:=qd hW;have HB:=qd hB;have bM:=qd (fun ap fp fs hap V hV=>gy tb gb e.key e.hash T ap fp fs hap V hV);unfold gN at bM;rw[hsk]at bM aV;rw[hfr]at aV;simp only[Option.map_none,bK,eO,Option.getD_none,Option.isSome_none]at bM aV;unfold bP aG bH at aV;unfold bH aO at bM;unfold bP aG aO;clear hW hB h hM;go_in;go_upto_region 1 with fail;rw[←HW.out];go_wp2_with fail;refine(aV.out).mono ?_;rintro x w1 ⟨ap,fp,rfl,hap,hfp,hM1,hm1⟩;obtain rfl:=hfp i s rfl;go_upto_region 2 with fail;have hS2:=aj.new w1 240 #[pQ tb,nU e.key,nU e.hash,.pointer ap,.int .i64 (-1),.pointer (some ⟨gb,i*25,none⟩),nI s];have hb2:=(Below.refl w1.heap.size w1).alloc (Nat.le_refl _) (.cells #[pQ tb,nU e.key,nU e.hash,.pointer ap,.int .i64 (-1),.pointer (some ⟨gb,i*25,none⟩),nI s] 240);obtain⟨w2,hw2⟩:∃w2,w2=w1.alloc (.cells #[pQ tb,nU e.key,nU e.hash,.pointer ap,.int .i64 (-1),.pointer (some ⟨gb,i*25,none⟩),nI s] 240):=⟨_,rfl⟩;rw[←hw2]at hS2 hb2⊢;clear hw2;have jy:=(lu.mod hm1 (by simp;omega) (by simp;omega)).below hb2;have hM2:=hM1.below hb2
 have hE2:=(hE.mod hm1 (by simp;omega)).below hb2 (hE.mod hm1 (by simp;omega)).lt;have hm2:=((Mod.of_below HB.out [mb,tb,gb]).then (hm1.more (by simp))).then (Mod.of_below hb2 [mb,tb,gb]);obtain⟨sp0,sp1,sp2,sp3,sp4,sp5,sp6⟩:=hS2.c7;clear lu hM1 hm1 hE hb2;go_wp2_with fail;refine(bM.out ap _ _ (fun _ _ hh=>by cases hh) w2 jy).mono ?_;rintro x w3 ⟨rfl,hb3⟩;have hb4:=bR ((Below.refl w3.heap.size w3).alloc (Nat.le_refl _) (.cells #[.int .u64 0,.int .u64 0,.int .u64 0] 159)) hb3;have II:=hS2.below hb4 hS2.lt;have hE4:=hE2.below hb4 hE2.lt;go_upto_region 5 with fail;obtain⟨w4,hw4⟩:∃w4,w4=w3.alloc (.cells #[.int .u64 0,.int .u64 0,.int .u64 0] 159):=⟨_,rfl⟩;rw[←hw4]at hb4 II hE4
 try rw[←hw4]
 clear hw4 hb3 hS2 hE2;have Br:=xX T.gs hP.pos e.key e.hash i s hfr
 have tJ:s<8:=by have:=h8 i Br.1;omega
 have iW:=qd (zG tb gb ap T i s e Br.1 tJ h64 Br.2.2 hS hroom w4 (jy.below hb4));unfold bH aO at iW;have Dk:=qd (hM2.below hb4);have HM5:=qd (hm2.then (Mod.of_below hb4 [mb,tb,gb]));clear jy hM2 hm2 hb4;obtain⟨sq0,sq1,sq2,sq3,sq4,sq5,sq6⟩:=II.c7;obtain⟨eq0,eq1,eq2⟩:=hE4.c3;go_wp2_with fail;refine(iW.out).mono ?_;rintro x w5 ⟨rfl,l7,jg⟩;have Ye:=qd l7;have IK:=qd (Dk.out.mod jg (by simp;omega));have Lb:=qd (HM5.out.then (jg.more (by simp)));clear l7 jg;go_wp2;refine bodyPost_ret (v:= .tuple #[.bool true,.nilIface]) (by simp[results,Tryz.results291,go_sem]) rfl ⟨rfl,Ye.out,IK.out,Lb.out⟩
theorem Bt (tb gb:Nat)(T:aB)(mb:Nat)(mt:TypeId)(gF eD:List Value)(mo:Nat)(a0 l0:aZ)(m:Int)(c:aZ)(key hash:Nat)(w:World)(h:TabAt w tb gb T)(hP:Pw T.gs.length)(h64:hash<18446744073709551616)(hM:Met w mb mt gF eD mo a0 l0 m)(hmt:mb≠tb)(fZ:mb≠gb)(hT:fG w)(hz:14 ≠mb)(i s:Nat)(hsk:(aI T.gs key hash).1=some (i,s))(e0:av)(he0:aF T.gs i s= .full e0)(hS:Small T):
  Calls Tryz.prog 129 #[bP tb,aG (some ⟨mb,mo,none⟩) c,nU key,nU hash] w fun x w'=>x= .returned (eO (some e0))∧TabAt w' tb gb (iE T i s)∧Met w' mb mt gF eD mo (eB a0 c (aI T.gs key hash).2.2) (eB l0 c (aI T.gs key hash).2.2) m∧Mod [mb,tb,gb] w w':=by
 obtain⟨W,hW,hB,hL,hR⟩:=jZ w 163 #[.pointer (some ⟨mb,mo,none⟩),.int .i64 c.p,.int .i64 c.v,.int .i64 c.u] 159 #[.int .u64 0,.int .u64 0,.int .u64 0];have lc:=hL.c4;have hml:=hM.lt;have htl:=h.aR;have hgl:=h.aS;obtain⟨e1,he1,hk0,hil,hsl⟩:=tH hsk
 have tJ:s<8:=by have:=h.wide.at_ hil;omega
 have HW:=qd hW;have bM:=qd (fun ap fp fs hap V hV=>gy tb gb key hash T ap fp fs hap V hV);have aV:=qd (qQ tb gb key hash T mb mt gF eD mo a0 l0 m c W (h.below hB) hP h64 (hM.below hB) hmt fZ (hT.below hB) hz);unfold gN at bM;obtain⟨fs,hfs⟩:∃fs,fs=bK (aI T.gs key hash).2.1:=⟨_,rfl⟩;rw[hsk]at bM aV;rw[←hfs]at aV;clear hfs;simp only[Option.map_some,he0,Slot.ent,bK,eO,Option.getD_some,Option.isSome_some]at bM aV;unfold bH at aV;unfold bH aO at bM;unfold bP aG eO aO;simp only[Option.getD_some,Option.isSome_some];have HT:=qd (h.below hB);have HR:=qd (hR);have ah:=qd (Mod.of_below hB [mb,tb,gb]);clear hW hB h hM hL hR hT he1;go_in;go_upto_region 1 with fail;rw[←HW.out];go_wp2_with fail;refine(aV.out).mono ?_;rintro x w1 ⟨ap,fp,rfl,hap,hfp,hM1,hm⟩;clear lc;replace HT:=qM hm HT;replace HR:=qM hm HR;replace ah:=qU ah hm;clear hm;obtain rfl:=hap i s rfl;clear hap hfp;have HM:=qd (hM1);clear hM1;go_upto_region 2 with fail;have q1:=qJ HT.out.aR (qJ HT.out.aS (qJ HR.out.lt (qJ HM.out.lt ah.out.size)));refine dB 240 #[pQ tb,nU key,nU hash,.pointer (some ⟨gb,i*25,none⟩),nI s,.pointer fp,.int .i64 fs] ?_;rintro w2 ⟨hnew,hb⟩;replace HT:=qB hb HT;replace HR:=qB hb HR;replace HM:=qB hb HM;replace ah:=qT ah hb;have HS:=qd (hnew);clear hnew hb;have sp:=HS.out.c7;go_wp2_with fail;refine(bM.out (some ⟨gb,i*25,none⟩) fp fs (fun i2 s2 hh=>by cases hh;rfl) w2 HT.out).mono ?_;rintro x w3 ⟨rfl,hb⟩;clear sp;replace HT:=qB hb HT;replace HR:=qB hb HR;replace HM:=qB hb HM;replace HS:=qB hb HS
 replace ah:=qT ah hb;clear hb;go_upto_region 3 with fail;have q6:=qJ HT.out.aR (qJ HT.out.aS (qJ HR.out.lt (qJ HM.out.lt (qJ HS.out.lt ah.out.size))));refine dB 159 #[nU e0.key,nU e0.val,nU e0.hash] ?_;rintro w4 ⟨hnew,hb⟩;replace HT:=qB hb HT;replace HR:=qB hb HR;replace HM:=qB hb HM;replace HS:=qB hb HS;replace ah:=qT ah hb;have HD:=qd (hnew);clear hnew hb;have sp:=HS.out.c7;have dc:=HD.out.c3;have OO:=qd (Du tb key hash gb fp fs T i s hil tJ e0 he0 hS w4.drew (HT.out.below (Below.refl _ _).drew));refine rT (fun(w':World)=>w'.cell? ⟨w3.heap.size,0,none⟩=some (nU e0.key)∧w'.cell? ⟨w3.heap.size,1,none⟩=some (nU e0.val)∧w'.cell? ⟨w3.heap.size,2,none⟩=some (nU e0.hash)∧w'.cell? ⟨w1.heap.size,0,none⟩=some (pQ tb)∧w'.cell? ⟨w1.heap.size,1,none⟩=some (nU key)∧w'.cell? ⟨w1.heap.size,2,none⟩=some (nU hash)∧w'.cell? ⟨w1.heap.size,3,none⟩=some (.pointer (some ⟨gb,i*25,none⟩))∧w'.cell? ⟨w1.heap.size,4,none⟩=some (nI s)∧w'.cell? ⟨w1.heap.size,5,none⟩=some (.pointer fp)∧w'.cell? ⟨w1.heap.size,6,none⟩=some (.int .i64 fs)) [7] ?_;have hHeld:=(⟨dc.1,dc.2.1,dc.2.2,sp.1,sp.2.1,sp.2.2.1,sp.2.2.2.1,sp.2.2.2.2.1,sp.2.2.2.2.2.1,sp.2.2.2.2.2.2⟩:_∧_∧_∧_∧_∧_∧_∧_∧_∧_);refine vT 0 rfl ?_;refine vW 1 rfl ?_;refine vW 2 rfl ?_;refine vT 3 rfl ?_;refine nT 4 rfl fun K hK=> ?_;go_simp;refine(OO.out).mono ?_;rintro x w5 ⟨rfl,l7,hm⟩;replace hm:Mod [tb,gb] w4 w5:=(Mod.drewN [tb,gb] w4 1).then hm;clear HT sp dc;replace HR:=qM hm HR;replace HM:=qM hm HM;replace HS:=qM hm HS;replace HD:=qM hm HD
 replace ah:=qU ah hm;have HT:=qd (l7);clear l7 hm;have sp:=HS.out.c7;have dc:=HD.out.c3;have rc:=HR.out.c3;have rf:=HR.out.f3;go_simp;have hHeld:=(⟨dc.1,dc.2.1,dc.2.2,sp.1,sp.2.1,sp.2.2.1,sp.2.2.2.1,sp.2.2.2.2.1,sp.2.2.2.2.2.1,sp.2.2.2.2.2.2⟩:_∧_∧_∧_∧_∧_∧_∧_∧_∧_);refine kO hK ?_;clear hK K;refine vW 5 rfl ?_;refine vW 6 rfl ?_;refine nT 7 rfl fun K hK=> ?_;go_simp;refine kO hK ?_;clear hK K;refine vL 8 rfl ?_;refine aQ (by kernel_rfl) ?_ _;clear HS HD;have q12:=qJ HR.out.lt (qJ HM.out.lt (qJ HT.out.aR HT.out.aS));have hnew:=(((HR.out.ak 0 (nU e0.key)).ak 1 (nU e0.val)).ak 2 (nU e0.hash));have hm:=((((Mod.refl [(w.heap.size+1)] w5).sl 0 (nU e0.key)).sl 1 (nU e0.val)).sl 2 (nU e0.hash));simp only[pt]at hnew;refine dA (F:=fun v=>aj v (w.heap.size+1) 159 #[nU e0.key,nU e0.val,nU e0.hash]∧Mod [(w.heap.size+1)] w5 v) ⟨hnew,hm⟩ ?_;clear hnew hm;rintro w6 ⟨hnew,hm⟩;replace HM:=qM hm HM;replace HT:=qM hm HT;replace ah:=qU ah hm;replace HR:=qd hnew;clear hnew hm;have rc:=HR.out.c3;go_wp2;refine bodyPost_ret (v:= .tuple #[.agg #[nU e0.key,nU e0.val,nU e0.hash],.bool true]) (by simp[results,Tryz.results129,go_sem,rc.1,rc.2.1,rc.2.2]) rfl ⟨rfl,HT.out,HM.out,ah.out⟩
theorem C8 (tb gb:Nat)(T:aB)(mb:Nat)(mt:TypeId)(gF eD:List Value)(mo:Nat)(a0 l0:aZ)(m:Int)(c:aZ)(key hash:Nat)(w:World)(h:TabAt w tb gb T)(hP:Pw T.gs.length)(h64:hash<18446744073709551616)(hM:Met w mb mt gF eD mo a0 l0 m)(hmt:mb≠tb)(fZ:mb≠gb)(hT:fG w)(hz:14 ≠mb)(hsk:(aI T.gs key hash).1=none):
  Calls Tryz.prog 129 #[bP tb,aG (some ⟨mb,mo,none⟩) c,nU key,nU hash] w fun x w'=>x= .returned (eO none)∧TabAt w' tb gb T∧Met w' mb mt gF eD mo (eB a0 c (aI T.gs key hash).2.2) (eB l0 c (aI T.gs key hash).2.2) m∧Mod [mb] w w':=by
 obtain⟨W,hW,hB,hL,hR⟩:=jZ w 163 #[.pointer (some ⟨mb,mo,none⟩),.int .i64 c.p,.int .i64 c.v,.int .i64 c.u] 159 #[.int .u64 0,.int .u64 0,.int .u64 0];have lc:=hL.c4;have hml:=hM.lt;have htl:=h.aR;have hgl:=h.aS;have HW:=qd hW;have bM:=qd (fun ap fp fs hap V hV=>gy tb gb key hash T ap fp fs hap V hV);have aV:=qd (qQ tb gb key hash T mb mt gF eD mo a0 l0 m c W (h.below hB) hP h64 (hM.below hB) hmt fZ (hT.below hB) hz);unfold gN at bM;obtain⟨fs,hfs⟩:∃fs,fs=bK (aI T.gs key hash).2.1:=⟨_,rfl⟩;rw[hsk]at bM aV;rw[←hfs]at aV;clear hfs;simp only[Option.map_none,Slot.ent,bK,eO,Option.getD_none,Option.isSome_none]at bM aV;unfold bH at aV;unfold bH aO at bM;unfold bP aG eO aO;simp only[Option.getD_none,Option.isSome_none];have HT:=qd (h.below hB);have HR:=qd (hR);have ah:=qd (Mod.of_below hB [mb]);clear hW hB h hM hL hR hT;go_in;go_upto_region 1 with fail;rw[←HW.out];go_wp2_with fail;refine(aV.out).mono ?_;rintro x w1 ⟨ap,fp,rfl,hap,hfp,hM1,hm⟩;clear lc;replace HT:=qM hm HT;replace HR:=qM hm HR;replace ah:=qU ah hm;clear hm hap hfp;have HM:=qd (hM1);clear hM1;go_upto_region 2 with fail;have q1:=qJ HT.out.aR (qJ HT.out.aS (qJ HR.out.lt (qJ HM.out.lt ah.out.size)));refine dB 240 #[pQ tb,nU key,nU hash,.pointer ap,.int .i64 (-1),.pointer fp,.int .i64 fs] ?_;rintro w2 ⟨hnew,hb⟩;replace HT:=qB hb HT;replace HR:=qB hb HR;replace HM:=qB hb HM;replace ah:=qT ah hb;have HS:=qd (hnew);clear hnew hb;have sp:=HS.out.c7;go_wp2_with fail
 refine(bM.out ap fp fs (fun i2 s2 hh=>by cases hh) w2 HT.out).mono ?_;rintro x w3 ⟨rfl,hb⟩;clear sp;replace HT:=qB hb HT;replace HR:=qB hb HR;replace HM:=qB hb HM;replace HS:=qB hb HS;replace ah:=qT ah hb;clear hb;go_upto_region 3 with fail;have q6:=qJ HT.out.aR (qJ HT.out.aS (qJ HR.out.lt (qJ HM.out.lt (qJ HS.out.lt ah.out.size))));refine dB 159 #[.int .u64 0,.int .u64 0,.int .u64 0] ?_;rintro w4 ⟨hnew,hb⟩;replace HT:=qB hb HT;replace HR:=qB hb HR;replace HM:=qB hb HM;replace HS:=qB hb HS;replace ah:=qT ah hb;have HD:=qd (hnew);clear hnew hb;have sp:=HS.out.c7;have dc:=HD.out.c3;have rc:=HR.out.c3;have rf:=HR.out.f3;refine rT (fun(w':World)=>w'.cell? ⟨w3.heap.size,0,none⟩=some (.int .u64 0)∧w'.cell? ⟨w3.heap.size,1,none⟩=some (.int .u64 0)∧w'.cell? ⟨w3.heap.size,2,none⟩=some (.int .u64 0)) [7] ?_;have hHeld:=(⟨dc.1,dc.2.1,dc.2.2⟩:_∧_∧_);refine vT 0 rfl ?_;refine vW 1 rfl ?_;refine vW 2 rfl ?_;refine vU 3 rfl ?_;refine vU 4 rfl ?_;refine vU 5 rfl ?_;refine vW 6 rfl ?_;refine nT 7 rfl fun K hK=> ?_;go_simp;refine kO hK ?_;clear hK K;refine vL 8 rfl ?_;refine aQ (by kernel_rfl) ?_ _;clear HS HD;have q12:=qJ HT.out.aR (qJ HT.out.aS (qJ HR.out.lt HM.out.lt));have hnew:=(((HR.out.ak 0 (.int .u64 0)).ak 1 (.int .u64 0)).ak 2 (.int .u64 0)).drew;have hm:=(((((Mod.refl [(w.heap.size+1)] w4).sl 0 (.int .u64 0)).sl 1 (.int .u64 0)).sl 2 (.int .u64 0)).then (Mod.drewN [(w.heap.size+1)] _ 1));simp only[pt]at hnew
 refine dA (F:=fun v=>aj v (w.heap.size+1) 159 #[.int .u64 0,.int .u64 0,.int .u64 0]∧Mod [(w.heap.size+1)] w4 v) ⟨hnew,hm⟩ ?_;clear hnew hm;rintro w6 ⟨hnew,hm⟩;replace HT:=qM hm HT;replace HM:=qM hm HM;replace ah:=qU ah hm;replace HR:=qd hnew;clear hnew hm;have rc:=HR.out.c3;go_wp2;refine bodyPost_ret (v:= .tuple #[.agg #[.int .u64 0,.int .u64 0,.int .u64 0],.bool false]) (by simp[results,Tryz.results129,go_sem,rc.1,rc.2.1,rc.2.2]) rfl ⟨rfl,HT.out,HM.out,ah.out⟩
theorem Fz (tb gb:Nat)(T:aB)(mb:Nat)(mt:TypeId)(gF eD:List Value)(mo:Nat)(a0 l0:aZ)(m:Int)(c:aZ)(i:Nat)(hi:i<T.gs.length)(w:World)(h:TabAt w tb gb T)(hM:Met w mb mt gF eD mo a0 l0 m)(hmt:mb≠tb)(fZ:mb≠gb):
  Calls Tryz.prog 297 #[bP tb,aG (some ⟨mb,mo,none⟩) c,nI i] w fun x w'=>x= .returned (.tuple #[bq ⟨gb,i*25,none⟩,.bool true])∧Met w' mb mt gF eD mo (iU a0 c) (iU l0 c) m∧Mod [mb] w w':=by
 obtain⟨W,hW,hB,hL,hR⟩:=jZ w 163 #[.pointer (some ⟨mb,mo,none⟩),.int .i64 c.p,.int .i64 c.v,.int .i64 c.u] 219 #[.pointer none];have lc:=hL.c4;have IL:=hR.cell 0;simp only[List.getElem?_toArray,List.getElem?_cons_zero]at IL;have hml:=hM.lt;have htl:=h.aR;have hgl:=h.aS;have HW:=qd hW
 have hi':(i:Int)<(T.gs.length:Int):=by omega
 have hi0:¬((i:Int)<0):=by omega
 have hi2:(0:Int)≤(i:Int):=by omega
 have rQ:=qd (uO ⟨gb,i*25,none⟩ mb mt gF eD mo a0 l0 m c W.drew (hM.below (hB.trans ((Below.refl _ _).drew.mono hB.size))));obtain⟨rR,Yf,Yg⟩:=(h.below hB).cells;unfold aG at rQ;unfold bP aG bq;have HT:=qd (h.below hB);have HR:=qd (hR);have ah:=qd (Mod.of_below hB [mb]);clear hW hB h hM hL hR;go_in;go_upto_region 1 with fail;rw[←HW.out];go_upto_region 3 with fail;refine rT (fun(w':World)=>w'.cell? ⟨tb,0,none⟩=some (.slice (some ⟨gb,0,none⟩) T.gs.length T.gs.length)∧w'.cell? ⟨w.heap.size,0,none⟩=some (.pointer (some ⟨mb,mo,none⟩))∧w'.cell? ⟨w.heap.size,1,none⟩=some (.int .i64 c.p)∧w'.cell? ⟨w.heap.size,2,none⟩=some (.int .i64 c.v)∧w'.cell? ⟨w.heap.size,3,none⟩=some (.int .i64 c.u)) [7,8] ?_;have hHeld:=(⟨rR,lc.1,lc.2.1,lc.2.2.1,lc.2.2.2⟩:_∧_∧_∧_∧_);refine vW 0 rfl ?_;refine vW 1 rfl ?_;refine vW 2 rfl ?_;refine vT 3 rfl ?_;refine vW 4 rfl ?_;refine vW 5 rfl ?_;refine vT 6 rfl ?_;refine nT 7 rfl fun K hK=> ?_;go_simp;refine(rQ.out).mono ?_;rintro x w1 ⟨rfl,hM1,hm⟩;replace hm:Mod [mb] W w1:=(Mod.drewN [mb] W 1).then hm;clear lc IL;replace HT:=qM hm HT;replace HR:=qM hm HR;replace ah:=qU ah hm;have HM:=qd (hM1);clear hM1 hm;unfold bq;have IL:=HR.out.cell 0;simp only[List.getElem?_toArray,List.getElem?_cons_zero]at IL;have rf0:=HR.out.frozen 0;have n0:=HT.out.cells.1;go_simp;refine kO hK ?_;clear hK K;refine nT 8 rfl fun K hK=> ?_;go_simp;refine kO hK ?_;clear hK K;refine vL 9 rfl ?_;refine aQ (by kernel_rfl) ?_ _;have q1:=qJ HT.out.aR (qJ HT.out.aS (qJ HR.out.lt HM.out.lt))
 have hnew:=(HR.out.ak 0 (.pointer (some ⟨gb,i*25,none⟩)));have hm:=((Mod.refl [(w.heap.size+1)] w1).sl 0 (.pointer (some ⟨gb,i*25,none⟩)));simp only[pt]at hnew;refine dA (F:=fun v=>aj v (w.heap.size+1) 219 #[.pointer (some ⟨gb,i*25,none⟩)]∧Mod [(w.heap.size+1)] w1 v) ⟨hnew,hm⟩ ?_;clear hnew hm;rintro w2 ⟨hnew,hm⟩;clear IL rf0;replace HT:=qM hm HT;replace HM:=qM hm HM;replace ah:=qU ah hm;replace HR:=qd hnew;clear hnew hm;have IL:=HR.out.cell 0;simp only[List.getElem?_toArray,List.getElem?_cons_zero]at IL;go_wp2;refine bodyPost_ret (v:= .tuple #[.agg #[.pointer (some ⟨gb,i*25,none⟩)],.bool true]) (by simp[results,Tryz.results297,go_sem,IL]) rfl ⟨rfl,HM.out,ah.out⟩
theorem JZ (tb gb:Nat)(T:aB)(mb:Nat)(mt:TypeId)(gF eD:List Value)(mo:Nat)(a0 l0:aZ)(m:Int)(c:aZ)(i:Nat)(hi:i<T.gs.length)(w:World)(h:TabAt w tb gb T)(hM:Met w mb mt gF eD mo a0 l0 m)(hmt:mb≠tb)(fZ:mb≠gb):
  Calls Tryz.prog 292 #[bP tb,aG (some ⟨mb,mo,none⟩) c,nI i] w fun x w'=>x= .returned .nilIface∧TabAt w' tb gb {T with gs:=T.gs.set i (List.replicate 8 .empty)}∧Met w' mb mt gF eD mo (iU a0 c) (iU l0 c) m∧Mod [mb,tb,gb] w w':=by
 have hB:=(Below.refl w.heap.size w).alloc (Nat.le_refl _) (.cells #[.pointer (some ⟨mb,mo,none⟩),.int .i64 c.p,.int .i64 c.v,.int .i64 c.u] 163);have hL:=aj.new w 163 #[.pointer (some ⟨mb,mo,none⟩),.int .i64 c.p,.int .i64 c.v,.int .i64 c.u];obtain⟨W,hW⟩:∃W,W=w.alloc (.cells #[.pointer (some ⟨mb,mo,none⟩),.int .i64 c.p,.int .i64 c.v,.int .i64 c.u] 163):=⟨_,rfl⟩;rw[←hW]at hB hL;obtain⟨Iw,Iy,Iz,IB⟩:=hL.c4;have hml:=hM.lt;have htl:=h.aR;have hgl:=h.aS;have HW:=qd hW;have rQ:=qd (Fz tb gb T mb mt gF eD mo a0 l0 m c i hi W (h.below hB) (hM.below hB) hmt fZ);unfold bP aG bq at rQ;unfold bP aG;have HT:=qd (h.below hB);have ah:=qd (Mod.of_below hB [mb,tb,gb]);clear hW hB h hM hL;go_in;go_upto_region 1 with fail;rw[←HW.out];go_wp2_with fail;refine(rQ.out).mono ?_;rintro x w1 ⟨rfl,hM1,hm⟩;clear Iw Iy Iz IB;replace HT:=qM hm HT;replace ah:=qU ah hm;clear hm;have HM:=qd (hM1);clear hM1;go_upto_region 4 with fail;have q1:=qJ HT.out.aR (qJ HT.out.aS (qJ HM.out.lt ah.out.size));refine dB 219 #[.pointer (some ⟨gb,i*25,none⟩)] ?_;rintro w2 ⟨hnew,hb⟩;replace HT:=qB hb HT;replace HM:=qB hb HM;replace ah:=qT ah hb;have HV:=qd (hnew);clear hnew hb;have yR:=HV.out.cell 0;simp only[List.getElem?_toArray,List.getElem?_cons_zero]at yR;have wW:=qd (Ir gb 223 _ _ (i*25) _ w2 (HT.out.group i hi));unfold bq at wW;go_wp2_with fail;refine(wW.out).mono ?_;rintro x w3 ⟨rfl,hG3,hm⟩;have Aq:=HT.out.nN i hi hm hG3;clear HT hG3 HV yR
 replace HM:=qM hm HM;replace ah:=qU ah hm;have HT:=qd (Aq);clear hm Aq;go_wp2;go_ret;exact⟨rfl,HT.out,HM.out,ah.out⟩
section
variable {T : aB} {i s : Nat}
structure lD (T:aB):Prop where
 wide:pz T.gs
 pow:Pw T.gs.length
 live:T.live=((aL T.gs).length:Int)
 bS:T.bS=(eF T.gs:Int)
theorem lD.small (h:lD T):Small T:=by
 have h1:=RX h.wide;have h2:=h.pow.le;exact⟨by rw[h.live];omega,by rw[h.live];omega,by rw[h.bS];omega,by rw[h.bS];omega,h2⟩
theorem lD.put (h:lD T)(hi:i<T.gs.length)(hs:s<(T.gs.getD i []).length)(x:Slot){l t:Int}(hl:l=T.live+x.ents.length-(aF T.gs i s).ents.length)(ht:t=T.bS+x.jV-(aF T.gs i s).jV):lD ⟨putAt T.gs i s x,l,t⟩:=by
 have h1:=(AV hi hs x).length_eq;have h2:=uN hi hs x;rw[List.length_append,List.length_append]at h1;have h3:=h.live;have h4:=h.bS;exact⟨h.wide.put _ _ _,by show Pw (putAt _ _ _ _).length;rw[gL];exact h.pow,by show l=((aL (putAt T.gs i s x)).length:Int);omega,by show t=(eF (putAt T.gs i s x):Int);omega⟩
theorem lD.erase (h:lD T){e:av}(he:aF T.gs i s= .full e):lD (iE T i s):=by
 obtain⟨hi,hs⟩:=jI (gs:=T.gs) (i:=i) (s:=s) (by rw[he];exact fun h=>by cases h);unfold iE
 cases ho:dF (T.gs.getD i [])with
 |true=>exact h.put hi hs _ (by rw[he];simp[Slot.ents]<;>omega) (by rw[he];simp[Slot.jV,Slot.iD]<;>omega)
 |false=>exact h.put hi hs _ (by rw[he];simp[Slot.ents]<;>omega) (by rw[he];simp[Slot.jV,Slot.iD]<;>omega)
theorem lD.place (h:lD T)(hi:i<T.gs.length)(hs:s<(T.gs.getD i []).length)(he:(aF T.gs i s).isFull=false)(e:av):lD (jf T i s e):=by
 unfold jf
 cases hx:aF T.gs i s with
 |full y=>rw[hx]at he;cases he
 |empty=>exact h.put hi hs _ (by rw[hx];simp[Slot.ents]<;>omega) (by rw[hx];simp[Slot.jV,Slot.iD]<;>omega)
 |oH=>exact h.put hi hs _ (by rw[hx];simp[Slot.ents]<;>omega) (by rw[hx];simp[Slot.jV,Slot.iD]<;>omega)
theorem lD.replace (h:lD T){v:Nat}{e:av}(he:aF T.gs i s= .full e):lD (replaceM T i s v e):=by
 obtain⟨hi,hs⟩:=jI (gs:=T.gs) (i:=i) (s:=s) (by rw[he];exact fun h=>by cases h);exact h.put hi hs _ (by rw[he];simp[Slot.ents]<;>omega) (by rw[he];simp[Slot.jV,Slot.iD]<;>omega)
def fH (T:aB)(i s:Nat):aB:=if(aF T.gs i s).isFull then iE T i s else T
def takeN (T:aB)(i:Nat):Nat→aB
 |0=>T
 |k+1=>fH (takeN T i k) i k
theorem lD.acL (h:lD T)(i s:Nat):lD (fH T i s):=by
 unfold fH
 cases hx:aF T.gs i s with
 |full e=>rw[if_pos (by rfl)];exact h.erase hx
 |empty=>rw[if_neg (by simp[Slot.isFull])];exact h
 |oH=>rw[if_neg (by simp[Slot.isFull])];exact h
theorem lD.tkN (h:lD T)(i:Nat):∀k,lD (takeN T i k)
 |0=>h
 |k+1=>(h.tkN i k).acL i k
theorem Au (T:aB)(i s:Nat):(iE T i s).gs.length=T.gs.length:=gL _ _ _ _
theorem qR (T:aB)(i:Nat):∀k,(takeN T i k).gs.length=T.gs.length
 |0=>rfl
 |k+1=>by
  show(fH _ _ _).gs.length=_;unfold fH;split
  ·rw[Au,qR T i k]
  ·exact qR T i k
theorem Zt {w w':World}{S:List Nat}{base:Nat}{e:TypeId}{size n:Nat}{v:Value}{xs:List Value}(h:w.ownsRow base e size v n xs)(hm:Mod S w w')(hS:∀k,k∈S→k<base):w'.ownsRow base e size v n xs:=by
 refine⟨h.1, ?_⟩;rcases h.2 with hn|⟨g,cap,cur,hv,hb,hg,rest⟩
 ·exact .inl hn
 ·exact .inr ⟨g,cap,cur,hv,hb,(hm.block g (Array.getElem?_eq_some_iff.1 hg).1 (fun hh=>absurd (hS g hh) (by omega))).trans hg,rest⟩
instance {w w':World}{base:Nat}{e:TypeId}{size n:Nat}{v:Value}{xs:List Value}:Md (w.ownsRow base e size v n xs) w w' (w'.ownsRow base e size v n xs) (fun S=>∀k,k∈S→k<base):=⟨fun h hm hs=>Zt h hm hs⟩
end
section
structure sU (E:Nat→Addr)(w:World):Prop where
 of:∀k,k=1∨k=2∨k=5→dV E w k
theorem sU.at_ {E:Nat→Addr}{w:World}(h:sU E w)(k:Nat)(_:1≤k)(_:k≤16)(hk:k=1∨k=2∨k=5:=by decide):dV E w k:=h.of k hk
theorem sU.below {E:Nat→Addr}{w w':World}{B:Nat}(h:sU E w)(hb:Below B w w')(hB:w.heap.size≤B):sU E w':=⟨fun k hk=>(h.of k hk).below hb hB⟩
theorem iI.core {E:Nat→Addr}{w:World}(h:iI E w):sU E w:=⟨fun k hk=>h.at_ k (by omega) (by omega)⟩
structure Env (W0:World)(E:Nat→Addr)(w:World):Prop where
 below:Below W0.heap.size W0 w
 Yh:sU E W0
 tz0:fG W0
section
variable {W0 w w' : World} {E : Nat → Addr}
theorem Env.size (h:Env W0 E w):W0.heap.size≤w.heap.size:=h.below.size
theorem Env.errs (h:Env W0 E w):sU E w:=h.Yh.below h.below (Nat.le_refl _)
theorem Env.tz (h:Env W0 E w):fG w:=h.tz0.below h.below
theorem Env.Lc (h:Env W0 E w):14 <W0.heap.size:=World.block_lt_of_cell? W0 _ (h.tz0 0 (by omega))
theorem Env.mod {S:List Nat}(h:Env W0 E w)(hm:Mod S w w')(hS:∀k,k∈S→W0.heap.size≤k):Env W0 E w':=⟨h.below.trans (hm.below hS h.size),h.Yh,h.tz0⟩
instance {w w':World}{W0:World}{E:Nat→Addr}:Md (Env W0 E w) w w' (Env W0 E w') (fun S=>∀k,k∈S→W0.heap.size≤k):=⟨fun h hm hs=>h.mod hm hs⟩
theorem Env.next (h:Env W0 E w)(hb:Below w.heap.size w w'):Env W0 E w':=h.mod (Mod.of_below hb []) (by simp)
end
structure MP where
 mb:Nat
 mt:TypeId
 pre:List Value
 post:List Value
 mo:Nat
 m:Int
structure bI where
 all:aZ
 last:aZ
def bI.add (x:bI)(c:aZ)(n:Nat):bI:=⟨eB x.all c n,eB x.last c n⟩
theorem Bu (a c:aZ)(k:Nat):∀n,eB (eB a c k) c n=eB a c (k+n)
 |0=>rfl
 |n+1=>by
  show iU (eB (eB a c k) c n) c=iU (eB a c (k+n)) c;rw[Bu a c k n]
theorem bI.add_add (x:bI)(c:aZ)(k n:Nat):(x.add c k).add c n=x.add c (k+n):=by unfold bI.add;rw[Bu,Bu]
def aM (w:World)(P:MP)(x:bI):Prop:=Met w P.mb P.mt P.pre P.post P.mo x.all x.last P.m
def MP.addr (P:MP):Addr:=⟨P.mb,P.mo,none⟩
section
variable {w w' : World} {P : MP} {x : bI}
theorem aM.lt (h:aM w P x):P.mb<w.heap.size:=Met.lt h
theorem aM.mod {S:List Nat}(h:aM w P x)(hm:Mod S w w')(hg:P.mb∉S):aM w' P x:=Met.mod h hm hg
instance {w w':World}{P:MP}{x:bI}:Md (aM w P x) w w' (aM w' P x) (fun S=>P.mb∉S):=⟨fun h hm hs=>aM.mod h hm hs⟩
theorem aM.below (h:aM w P x)(hb:Below w.heap.size w w'):aM w' P x:=Met.below h hb
end
end
theorem zH {z:Array Value}{v:Value}{k:Nat}(hz:z=(List.replicate k v).toArray)(hk:0<k)(n:Nat):madeCells z n=(List.replicate n v).toArray:=by
 apply Array.toList_inj.1;subst hz;unfold madeCells;rw[Array.toList_map];refine List.ext_getElem (by simp) fun i h1 h2=> ?_;simp only[List.getElem_map,List.getElem_replicate];rw[getElem!_pos _ _ (by simp;exact Nat.mod_lt _ hk)];simp
def zI:j4:=List.replicate 8 (.full ⟨0,0,0⟩)
theorem Qt:vK zI=List.replicate 25 (.int .u64 0):=by rfl
theorem Bv:∀n,cO (List.replicate n zI)=List.replicate (n*25) (.int .u64 0)
 |0=>rfl
 |n+1=>by
  show vK zI++cO (List.replicate n zI)=_;rw[Bv n,Qt,Nat.add_mul,Nat.add_comm,List.replicate_append_replicate]
def aef:Value:= .agg #[.int .u64 0,.agg (Array.replicate 8 (.agg #[.int .u64 0,.int .u64 0,.int .u64 0]))]
theorem Wd:(Tryz.prog.info? 223).map (fun i=>(i.zero.map fun z=>z.cells,i.size,i.bytes))=some (some (List.replicate 25 (Value.int .u64 0)).toArray,25,200):=by kernel_rfl
theorem NN (n:Nat)(hn:n≤64)(W:World):(Instr.makeSlice 214 (nI n) (nI n)).run Tryz.prog W= .ok (.slice (some ⟨W.heap.size,0,none⟩) n n) (W.alloc (.cells (cO (List.replicate n zI)).toArray 223)):=by
 have h:=Wd
 cases hi:Tryz.prog.info? 223 with
 |none=>rw[hi]at h;cases h
 |some i=>
  rw[hi]at h;simp only[Option.map_some,Option.some.injEq,Prod.mk.injEq,Option.map_eq_some_iff]at h;obtain⟨⟨z,hz,hc⟩,hs,hb⟩:=h;have:=run_makeSlice (P:=Tryz.prog) (w:=W) 214 223 i z Tryz.underlying214 hi hz .i64 .i64 (n:Int) (n:Int) (by omega) (Int.le_refl _) (by rw[hs];omega) (by rw[hb];omega) (by omega);rw[this,hs,Int.toNat_natCast,zH hc (by omega),Bv]
theorem ou (n:Nat)(hn:Pw n)(w:World):Calls Tryz.prog 161 #[nI n] w fun e w'=>e= .returned (.bool true)∧w=w':=by
 rcases hn with rfl|rfl|rfl|rfl|rfl|rfl|rfl
 all_goals
  go_in;go_wp2;go_ret;exact⟨rfl,rfl⟩
def Qu (n:Nat):aB:=⟨List.replicate n zI,0,0⟩
theorem IQ (n:Nat)(hn:Pw n)(w:World):
  Calls Tryz.prog 125 #[nI n] w fun e w'=>e= .returned (.tuple #[bP (w.heap.size+1),.nilIface])∧TabAt w' (w.heap.size+1) w.heap.size (Qu n)∧Below w.heap.size w w':=by
 have HR:=qd (ou n hn w);have hle:=hn.le;have hpos:=hn.pos;have hmk:=NN n hle w;unfold bP;go_in;go_wp2_with fail;refine(HR.out).mono ?_;rintro x w1 ⟨rfl,rfl⟩;go_wp2;refine bodyPost_ret (v:= .tuple #[.pointer (some ⟨w.heap.size+1,0,none⟩),.nilIface]) (by simp[results,Tryz.results125,go_sem]) rfl ⟨rfl,⟨fun G hG=> ?_, ?_, ?_,by omega⟩, ?_⟩
 ·rw[(List.mem_replicate.1 hG).2];rfl
 ·have:=aj.new (w.alloc (.cells (cO (List.replicate n zI)).toArray 223)) 216 #[.slice (some ⟨w.heap.size,0,none⟩) n n,.int .i64 0,.int .i64 0];rw[World.size_alloc]at this;simpa[Qu]using this
 ·exact(aj.new w 223 (cO (List.replicate n zI)).toArray).alloc _
 ·exact((Below.refl _ _).alloc (Nat.le_refl _) _).alloc (by simp) _
def Ld:j4:=List.replicate 8 .empty
def o9 (n k:Nat):Tab:=List.replicate k Ld++List.replicate (n-k) zI
theorem wY (n:Nat):o9 n n=bare n:=by unfold o9;rw[Nat.sub_self];simp[bare,Ld]
theorem nO {n k:Nat}(h:k≤n):(o9 n k).length=n:=by simp[o9];omega
theorem IU {n k:Nat}(h:k<n):(o9 n k).set k Ld=o9 n (k+1):=by
 unfold o9;rw[List.set_append_right _ _ (by simp),List.length_replicate,Nat.sub_self,show n-k=(n-(k+1))+1 by omega,List.replicate_succ,List.set_cons_zero,List.replicate_succ',List.append_assoc];rfl
def dN (n k:Nat):aB:=⟨o9 n k,0,0⟩
theorem Zu {n:Nat}(hn:Pw n):lD (dN n n):=by
 have h:=(KL hn);refine⟨?_, ?_, ?_, ?_⟩
 ·show pz (o9 n n);rw[wY];exact h.wide
 ·show Pw (o9 n n).length;rw[nO (Nat.le_refl _)];exact hn
 ·show(0:Int)=((aL (o9 n n)).length:Int);rw[wY]
  have:aL (bare n)=[]:=List.eq_nil_iff_forall_not_mem.2 fun e he=>by obtain⟨i,s,hh⟩:=pU.1 he;rw[xW]at hh;cases hh
  rw[this];rfl
 ·show(0:Int)=(eF (o9 n n):Int);rw[wY]
  have:∀n,eF (bare n)=0:=fun n=>by
   induction n with
   |zero=>rfl
   |succ k ih=>show eF (List.replicate 8 Slot.empty::bare k)=0;rw[xV,ih];rfl
  rw[this];rfl
theorem SC (n:Nat)(hn:Pw n)(w:World):
  Calls Tryz.prog 93 #[nI n] w fun e w'=>∃tb gb,w.heap.size≤tb∧w.heap.size≤gb∧e= .returned (.tuple #[bP tb,.nilIface])∧TabAt w' tb gb (dN n n)∧Below w.heap.size w w':=by
 have hle:=hn.le;have hpos:=hn.pos;have Wh:=qd (IQ n hn w);unfold bP at Wh⊢;go_in;go_upto_region 1 with fail;go_wp2_with fail;refine(Wh.out).mono ?_;rintro x w1 ⟨rfl,hT1,hb1⟩;obtain⟨tb,htb⟩:∃tb,tb=w.heap.size+1:=⟨_,rfl⟩;obtain⟨gb,hgb⟩:∃gb,gb=w.heap.size:=⟨_,rfl⟩;rw[←htb]at hT1⊢;rw[←hgb]at hT1
 replace htb:w.heap.size≤tb:=by omega
 replace hgb:w.heap.size≤gb:=by omega
 clear Wh;obtain⟨c0,c1,c2⟩:=hT1.cells
 have hln:(Qu n).gs.length=n:=by simp[Qu]
 rw[hln]at c0;have HT:=qd (show TabAt w1 tb gb (dN n 0)from hT1);have ah:=qd hb1;clear hT1 hb1 hln;go_wp2;go_loopw [6,20] (fun _ i wr=>∃k:Nat,k≤n∧i= .int .i64 k∧TabAt wr tb gb (dN n k)∧Below w.heap.size w wr) (fun _ i _=>n-(intOf i).toNat)
 case atStart=>exact⟨0,by omega,rfl,HT.out,ah.out⟩
 case round=>
  clear HT ah c0 c1 c2;obtain⟨k,hk,rfl,hT,hm⟩:=hrel;by_cases hlt:k<n
  ·have hlt':(k:Int)<(n:Int):=by omega
   have hk0:(0:Int)≤(k:Int):=by omega
   obtain⟨c0,c1,c2⟩:=hT.cells;have hln:(dN n k).gs.length=n:=nO hk;rw[hln]at c0;have htl:=hT.aR;have hgl:=hT.aS;have rQ:=qd (GH ⟨gb,k*25,none⟩ ⟨0,0,0⟩ wr);have HG:=qd (hT.group k (by rw[hln];exact hlt));have HT:=qd hT;have Hm:=qd hm;have HS:=qd (IU hlt);unfold aG bq at rQ;clear hT hm hln;go_wp2_with fail;refine(rQ.out).mono ?_;rintro x w2 ⟨rfl,hb2⟩;have wW:=qd (Ir gb 223 _ _ (k*25) _ w2 (HG.out.below hb2));have HT2:=qd (HT.out.below hb2);have SE:=qd (Hm.out.trans (hb2.mono Hm.out.size));unfold bq at wW;clear hb2 HT Hm HG rQ;go_wp2_with fail;refine(wW.out).mono ?_;rintro x w3 ⟨rfl,hG3,gB⟩;have HT3:=qd (HT2.out.nN k (by rw[show(dN n k).gs.length=n from nO hk];exact hlt) gB hG3);have Hm3:=qd (SE.out.trans (gB.below (B:=w.heap.size) (by intro j hj;simp at hj;omega) SE.out.size));clear HT2 SE hG3 gB;go_wp2;go_roundw
   case rel=>exact⟨k+1,by omega,by go_num,by have:=HT3.out;unfold dN at this⊢;rw[←HS.out];exact this,Hm3.out⟩
   case measure=>simp[intOf];omega
  ·obtain rfl:k=n:=by omega
   have hlt':¬(k:Int)<(k:Int):=by omega
   go_wp2;refine bodyPost_ret (v:= .tuple #[pQ tb,.nilIface]) (by simp[results,Tryz.results93,go_sem]) rfl (by first|exact⟨tb,gb,htb,hgb,rfl,hT,hm⟩|exact⟨tb,htb,gb,hgb,rfl,hT,hm⟩)
end Go.Proofs.YtgkeameopnpinaaGreatDoor
