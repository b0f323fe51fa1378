/- A node's small functions by their contracts. -/
import Derived.Test.YtnfjjbpmhcbelaaGreatDoorCoBA
import Derived.Test.YtnfjjbpmhcbelaaGreatDoorSqM
import Derived.Test.YtnfjjbpmhcbelaaGreatDoorAppAny
import Derived.Test.YtnfjjbpmhcbelaaGreatDoorGaugeA
import Derived.Test.YtnfjjbpmhcbelaaGreatDoorCoBC
namespace Go.Proofs.YtnfjjbpmhcbelaaGreatDoor
set_option maxRecDepth 100000
set_option maxHeartbeats 8000000
open Go.RowKit dI Go
theorem Qb (nb tb:Nat)(pfx au job:Int)(dv:Value)(w:World)(h:aj w nb 189 #[.int .i64 pfx,.int .i64 au,pQ tb,.int .i64 job,dv]):
  Calls Tryz.prog 180 #[aL nb] w fun e w'=>e= .returned (.tuple #[.int .i64 pfx,.int .i64 au])∧w.drew=w':=by
 obtain⟨c0,c1,c2,c3,c4⟩:=h.c5;clear h;unfold aL;go_in;go_upto_region 1 with fail;go_region;go_wp2;refine bodyPost_ret (v:= .tuple #[.int .i64 pfx,.int .i64 au]) (by simp[results,Tryz.results180,go_sem]) rfl ⟨rfl,rfl⟩
theorem Am (nb tb db:Nat)(pfx au job:Int)(v:Int)(Post:World→World→Prop)(w:World)(h:aj w nb 189 #[.int .i64 pfx,.int .i64 au,pQ tb,.int .i64 job,pQ db])(hc:Calls Tryz.prog 261 #[bX db] w fun e w'=>e= .returned (.int .i64 v)∧Post w w'):
  Calls Tryz.prog 299 #[aL nb] w fun e w'=>e= .returned (.int .i64 v)∧Post w w':=by
 have HC:=qd hc;unfold bX at HC;clear hc;obtain⟨c0,c1,c2,c3,c4⟩:=h.c5;clear h;unfold aL;go_in;go_wp2_with fail;refine(HC.out).mono ?_;rintro y w1 ⟨rfl,hp⟩;have HP:=qd hp;clear hp;go_wp2;go_ret;exact⟨rfl,HP.out⟩
theorem L6 (nb tb:Nat)(pfx au job:Int)(w:World)(h:aj w nb 189 #[.int .i64 pfx,.int .i64 au,pQ tb,.int .i64 job,.pointer none]):
  Calls Tryz.prog 299 #[aL nb] w fun e w'=>e= .returned (.int .i64 0)∧w=w':=by
 obtain⟨c0,c1,c2,c3,c4⟩:=h.c5;clear h;unfold aL;go_in;go_wp2;go_ret;exact⟨rfl,rfl⟩
theorem Jz (nb tb db:Nat)(pfx au job:Int)(P:MP)(Post:World→World→Prop)(w:World)(h:aj w nb 189 #[.int .i64 pfx,.int .i64 au,pQ tb,.int .i64 job,pQ db])(hc:Calls Tryz.prog 301 #[bX db,.pointer (some ⟨P.mb,P.mo,none⟩)] w fun e w'=>e= .returned (.bool true)∧Post w w'):
  Calls Tryz.prog 300 #[aL nb,.pointer (some ⟨P.mb,P.mo,none⟩)] w fun e w'=>e= .returned (.bool true)∧Post w w':=by
 have HC:=qd hc;unfold bX at HC;clear hc;obtain⟨c0,c1,c2,c3,c4⟩:=h.c5;clear h;unfold aL;go_in;go_wp2_with fail;refine(HC.out).mono ?_;rintro y w1 ⟨rfl,hp⟩;have HP:=qd hp;clear hp;go_wp2;go_ret;exact⟨rfl,HP.out⟩
theorem Ao (nb tb db:Nat)(pfx au job:Int)(Post:World→World→Prop)(w:World)(h:aj w nb 189 #[.int .i64 pfx,.int .i64 au,pQ tb,.int .i64 job,pQ db])(hc:Calls Tryz.prog 261 #[bX db] w fun e w'=>e= .returned (.int .i64 0)∧Post w w'):
  Calls Tryz.prog 233 #[aL nb] w fun e w'=>e= .returned (.bool true)∧Post w w':=by
 have HC:=qd hc;unfold bX at HC;clear hc;obtain⟨c0,c1,c2,c3,c4⟩:=h.c5;clear h;unfold aL;go_in;go_wp2_with fail;refine(HC.out).mono ?_;rintro y w1 ⟨rfl,hp⟩;have HP:=qd hp;clear hp;go_wp2;go_ret;exact⟨rfl,HP.out⟩
theorem ze (nb tb db:Nat)(pfx au job gl:Int)(w:World)(h:aj w nb 189 #[.int .i64 pfx,.int .i64 au,pQ tb,.int .i64 job,pQ db]):
  Calls Tryz.prog 110 #[aL nb,.int .i64 gl] w fun e w'=>e= .returned (.tuple #[.int .i64 0,.bool false])∧w=w':=by
 obtain⟨c0,c1,c2,c3,c4⟩:=h.c5;clear h;unfold aL;go_in;go_wp2;refine bodyPost_ret (v:= .tuple #[.int .i64 0,.bool false]) (by simp[results,Tryz.results110,go_sem]) rfl ⟨rfl,rfl⟩
theorem JA (nb tb gb lo gl:Nat)(pfx job:Int)(T:aC)(w:World)(h:aj w nb 189 #[.int .i64 pfx,nI lo,pQ tb,.int .i64 job,.pointer none])(ht:TabAt w tb gb T)(hok:mg T):
  Calls Tryz.prog 110 #[aL nb,nI gl] w fun e w'=>e= .returned (.tuple #[.int .i64 ((jo T.live T.bW T.gs.length lo gl:Nat):Int),.bool (eU T.live T.bW T.gs.length lo gl)])∧Below w.heap.size w w':=by
 have sW:=hok.pow.le;have hsm:=hok.small;have KN:=qd hok.pow;have VI:=qd hsm;obtain⟨n,hn⟩:∃n,n=T.gs.length:=⟨_,rfl⟩;have HL:=qd (fun V hV=>U6 tb gb T V hV);have HTm:=qd (fun V hV=>PY tb gb T V hV);have HG:=qd (fun V hV=>sN tb gb T V hV);have HWh:=qd (fun V:World=>Oa T.live T.bW T.gs.length lo gl hok.pow ⟨hsm.l0,hsm.l1⟩ ⟨hsm.t0,hsm.t1⟩ V);have um:=qd (fun V:World=>LW T.live T.bW T.gs.length lo gl hok.pow ⟨hsm.l0,hsm.l1⟩ ⟨hsm.t0,hsm.t1⟩ V);unfold bU at HL HTm HG;clear hok hsm;have HN:=qd (h);have HT:=qd (ht);have ah:=qd (Mod.refl [] w);clear h ht;unfold aL;go_in;have nc:=HN.out.c5;go_upto_region 3 with fail;refine rT (fun(w':World)=>w'.cell? ⟨nb,2,none⟩=some (pQ tb)) [] ?_;have hHeld:=nc.2.2.1;refine vW 0 rfl ?_;refine vW 1 rfl ?_;refine vW 2 rfl ?_;refine vT 3 rfl ?_;refine vW 5 rfl ?_;refine vW 6 rfl ?_;refine vW 7 rfl ?_;refine vT 8 rfl ?_;refine vW 10 rfl ?_;refine vW 11 rfl ?_;refine vW 12 rfl ?_;refine vT 13 rfl ?_;refine nT 4 rfl fun K hK=> ?_;go_simp;refine(HL.out _ (HT.out.below (Below.refl _ _).drew)).mono ?_;rintro y w2 ⟨rfl,rfl⟩;go_wp2_with fail;have hHeld:=nc.2.2.1;refine kO hK ?_;clear hK K;refine nT 9 rfl fun K hK=> ?_;go_simp;refine(HTm.out _ (HT.out.below (Below.refl _ _).drew)).mono ?_;rintro y w2 ⟨rfl,rfl⟩;go_wp2_with fail;have hHeld:=nc.2.2.1;refine kO hK ?_;clear hK K;refine nT 14 rfl fun K hK=> ?_;go_simp;refine(HG.out _ (HT.out.below (Below.refl _ _).drew)).mono ?_;rintro y w2 ⟨rfl,rfl⟩;go_wp2_with fail;have hHeld:=nc.2.2.1;refine kO hK ?_;clear hK K
 refine vW 15 rfl ?_;refine vW 16 rfl ?_;refine vW 17 rfl ?_;refine aR (by kernel_rfl) ?_ _;refine bV (F:=fun v=>Mod [] w v) (Mod.drewN [] w 1) ?_;rintro w1 hm;clear nc;replace HN:=qM hm HN;replace HT:=qM hm HT;have z1:=(hm).size;replace ah:=qU ah hm;clear hm;go_upto_region 4 with fail;have nc:=HN.out.c5;refine rT (fun(w':World)=>w'.cell? ⟨nb,1,none⟩=some (nI lo)) [] ?_;have hHeld:=nc.2.1;refine vW 0 rfl ?_;refine vW 1 rfl ?_;refine vW 2 rfl ?_;refine vW 3 rfl ?_;refine vW 4 rfl ?_;refine vW 5 rfl ?_;refine vT 6 rfl ?_;refine vW 7 rfl ?_;refine vW 9 rfl ?_;refine vW 10 rfl ?_;refine vW 11 rfl ?_;refine vW 12 rfl ?_;refine vW 13 rfl ?_;refine vW 14 rfl ?_;refine vT 15 rfl ?_;refine vW 16 rfl ?_;refine nT 8 rfl fun K hK=> ?_;go_simp;refine(HWh.out _).mono ?_;rintro y w2 ⟨rfl,rfl⟩;go_wp2_with fail;have hHeld:=nc.2.1;refine kO hK ?_;clear hK K;refine nT 17 rfl fun K hK=> ?_;go_simp;refine(um.out _).mono ?_;rintro y w2 ⟨rfl,rfl⟩;go_wp2_with fail;have hHeld:=nc.2.1;refine kO hK ?_;clear hK K;refine vW 18 rfl ?_;refine vW 19 rfl ?_;refine aR (by kernel_rfl) ?_ _;have HFin:=qd (show Below w.heap.size w w1.drew from(ah.out.Bf).trans ((Below.refl _ _).drew.mono ah.out.size));go_wp2;refine bodyPost_ret (v:= .tuple #[.int .i64 ((jo T.live T.bW T.gs.length lo gl:Nat):Int),.bool (eU T.live T.bW T.gs.length lo gl)]) (by simp[results,Tryz.results110,go_sem]) rfl ⟨rfl,HFin.out⟩
theorem Iw.mod {w w1 w2:World}{db ob og:Nat}{T:aC}{n m depth:Nat}{S:List Nat}(h:Iw w w1 db ob og T n m depth)(hm:Mod S w1 w2)(hS:∀k∈S,k<w.heap.size∧k≠ob∧k≠og):Iw w w2 db ob og T n m depth:=by
 obtain⟨rb,cap,bl,h1,h2,h3,h4,h5⟩:=h;refine⟨rb,cap,bl,h1,h2,h3,h4,h5.mod hm fun q hq hk=> ?_⟩;have hh:=hS q hk;unfold bH at hq;simp only[List.mem_cons]at hq;rcases hq with e|e|e|e|e
 ·omega
 ·omega
 ·exact hh.2.1 e
 ·exact hh.2.2 e
 ·have:=h3 q e;omega
theorem Za (w:World):
  Calls Tryz.prog 72 #[.int .i64 0,.int .i64 0] w fun e w'=>∃nb tb gb,e= .returned (.tuple #[aL nb,.nilIface])∧aj w' nb 189 #[.int .i64 0,.int .i64 0,pQ tb,.int .i64 0,.pointer none]∧TabAt w' tb gb (dR 1 1)∧(w.heap.size≤nb∧w.heap.size≤tb∧w.heap.size≤gb∧nb≠tb∧nb≠gb)∧Below w.heap.size w w':=by
 have HL:=qd (CP 0 0 (by omega) (by omega) w);have HN:=qd (Vr 1 (.inl rfl) w);unfold bU at HN;unfold aL;go_in;go_wp2_with fail;refine(HL.out).mono ?_;rintro y w1 ⟨rfl,rfl⟩;go_wp2_with fail;refine(HN.out).mono ?_;rintro y w1 ⟨tb,gb,htb,hgb,rfl,hT,hb⟩;have HT:=qd hT;have Hb:=qd hb;clear hT hb;go_wp2;refine bodyPost_ret (v:= .tuple #[pQ w1.heap.size,.nilIface]) (by simp[results,Tryz.results72,go_sem]) rfl ?_;have hbs:=Hb.out.size;exact⟨w1.heap.size,tb,gb,rfl,aj.new w1 _ _,HT.out.below ((Below.refl _ _).alloc (Nat.le_refl _) _),by have:=HT.out.aT;have:=HT.out.aU;omega,Hb.out.alloc hbs _⟩
theorem Td (nb tb gb kind each many au:Nat)(pfx job:Int)(T:aC)(hd:au<5∨many=1∧au≤5)(w:World)(h:aj w nb 189 #[.int .i64 pfx,nI au,pQ tb,.int .i64 job,.pointer none])(ht:TabAt w tb gb T)(hok:mg T)(hpe:Pw each)(hk:kind=1∧each=T.gs.length∧many=1∨kind=2∧each=2*T.gs.length∧many=1∨kind=3∧each=T.gs.length∧many=2)(hnt:nb≠tb)(hng:nb≠gb):
  Calls Tryz.prog 112 #[aL nb,nI kind] w fun e w'=>e= .returned .nilIface∧∃db,aj w' nb 189 #[.int .i64 pfx,nI au,pQ tb,nI kind,pQ db]∧Iw w w' db tb gb T each many (if many=1 then 0 else au)∧Mod [nb] w w':=by
 have hnl:=h.lt;have htl:=ht.aT;have hgl:=ht.aU;obtain⟨g,hg⟩:∃g,g=T.gs.length:=⟨_,rfl⟩;have HG:=qd (sN tb gb T w ht);rw[←hg]at HG hk;have HC:=qd (LX kind g each many (by rw[hg];exact hok.pow) hpe hk w);unfold bU at HG;unfold aL
 have hcase:many=1∧(if many=1 then-1 else(au:Int))= -1∧(if many=1 then 0 else au)=0∨many=2∧(if many=1 then-1 else(au:Int))=((if many=1 then 0 else au:Nat):Int)∧(if many=1 then 0 else au)≤15:=by
  rcases hk with⟨_,_,rfl⟩|⟨_,_,rfl⟩|⟨_,_,rfl⟩
  ·left;simp
  ·left;simp
  ·right;simp;omega
 have Fj:=qd (Y9 tb gb each many (if many=1 then 0 else au) (if many=1 then-1 else(au:Int)) T hpe hcase w ht)
 have hmm:many=1∨many=2:=by omega
 clear hcase;have HN:=qd (h);have ah:=qd (Mod.refl [nb] w);clear h ht hk hok hg hpe;rcases hmm with rfl|rfl
 focus
  simp only[if_true]at Fj⊢;unfold bX at Fj
 rotate_left
 focus
  simp only[if_false,show(2:Nat)≠1 from by decide]at Fj⊢;unfold bX at Fj
  have hd5:¬(au:Int)≥5:=by omega
 all_goals
  go_in;have nc:=HN.out.c5;go_wp2_with fail;refine(HG.out).mono ?_;rintro y w1 ⟨rfl,rfl⟩;go_wp2_with fail;refine(HC.out).mono ?_;rintro y w1 ⟨rfl,rfl⟩;go_wp2_with fail;refine(Fj.out).mono ?_;rintro y w1 ⟨db,rfl,qF,hb⟩;have acj:=hb.size;clear nc;replace HN:=qB hb HN;have aef:=(hb).size;replace ah:=qT ah hb;clear hb Fj HG HC;have Fj:=qd qF;clear qF;have nc:=HN.out.c5;have nf:=HN.out.f5;go_upto_region 15 with fail;have afV:=HN.out.lt;refine qS2 HN.out ?_;rintro w2 ⟨hnew,hm⟩;simp only[pt]at hnew;have HDw:=qd (Fj.out.mod hm (by intro k hk;simp at hk;omega));have afW:=(hm).size;replace ah:=qU ah hm;replace HN:=qd hnew;clear hnew hm;go_wp2;go_ret;exact⟨rfl,db,HN.out,HDw.out,ah.out⟩
theorem iA {db rb fb eb vb ob og:Nat}{bI:List Nat}{bs:List (Nat×Nat)}{b:Nat×Nat}(h:b∈bs):b.1∈aW db rb fb eb vb ob og bI bs∧b.2∈aW db rb fb eb vb ob og bI bs:=by
 have h1:b.1∈fM bs:=dM.2 ⟨b,h,.inl rfl⟩;have h2:b.2∈fM bs:=dM.2 ⟨b,h,.inr rfl⟩;unfold aW;simp only[List.mem_cons,List.mem_append];exact⟨.inr (.inr (.inr (.inr (.inr (.inr (.inr (.inr h1))))))),.inr (.inr (.inr (.inr (.inr (.inr (.inr (.inr h2)))))))⟩
theorem Oc (nb tb db rb cap og fb bY eb vb cK t0 g0:Nat)(bI:List Nat)(pfx au job:Int)(T:aC)(Ts:List aC)(n depth next:Nat)(w:World)(h:aj w nb 189 #[.int .i64 pfx,.int .i64 au,pQ tb,.int .i64 job,pQ db])(qF:oW w db rb cap tb og fb bY eb vb cK bI [(t0,g0)] T Ts n depth next)(sW:T.gs.length≤64)(hnx:next=T.gs.length)(hnf:∀q∈aW db rb fb eb vb tb og bI [(t0,g0)],q≠nb):
  Calls Tryz.prog 179 #[aL nb] w fun e w'=>e= .returned (.tuple #[.pointer none,.nilIface])∧aj w' nb 189 #[.int .i64 pfx,.int .i64 au,pQ t0,.int .i64 0,.pointer none]∧iw w' [(t0,g0)] Ts∧Mod [nb,db] w w':=by
 have hnd:=qF.nd;have hdl:=qF.blk.lt;have jm:=qd (qO db rb cap tb og fb bY eb vb cK bI [(t0,g0)] T Ts n depth next w qF sW (by omega))
 have hz:T.gs.length-next=0:=by omega
 rw[hz]at jm;have HDn:=qd (Ao nb tb db pfx au job (fun w w'=>w.drew=w') w h jm.out);have vI:=qd (KP db rb cap tb og fb bY eb vb cK bI [(t0,g0)] T Ts n depth next w.drew (qF.mod (Mod.drewN [] w 1) (by simp)) sW hnx);unfold aL at HDn;unfold bX at vI;unfold aL;have hbn:∀b∈[(t0,g0)],b.1≠nb∧b.2≠nb:=fun b hb=>⟨hnf _ (iA hb).1,hnf _ (iA hb).2⟩;have hnl:=h.lt;have hdn:db≠nb:=hnf _ (by simp[aW]);clear hz jm;have N8:=qd hbn;have HN:=qd (h);have ah:=qd (Mod.refl [nb,db] w);clear h qF hnd hnx sW hnf;go_in;go_wp2_with fail;refine(HDn.out).mono ?_;rintro y w1 ⟨rfl,rfl⟩;clear HDn;replace HN:=qd (HN.out.mod (Mod.drewN [] w 1) (by simp));replace ah:=qd (ah.out.then (Mod.drewN [nb,db] w 1));obtain⟨w1,hw1⟩:∃w1,w1=w.drew:=⟨_,rfl⟩;have hN1:=HN.out;have hm1:=ah.out;rw[show w.drewN 1=w.drew from rfl,←hw1]at hN1 hm1;rw[←hw1]at vI⊢
 have hs1:w.heap.size=w1.heap.size:=by rw[hw1];rfl
 clear HN ah hw1;have HN:=qd hN1;have ah:=qd hm1;clear hN1 hm1;have nc:=HN.out.c5;go_wp2_with fail;refine(vI.out).mono ?_;rintro x w2 ⟨rb2,c2,rfl,hrow,aeg,hts,hm⟩;clear nc;replace HN:=qM hm HN;have z1:=(hm).size;replace ah:=qU ah hm;clear hm vI;have r0:=hrow.at_ 0 t0 rfl;have hrl:=hrow.lt
 have hrn:rb2≠nb:=by omega
 have dJ:=qd (hts);have HW:=qd (hrow);clear hts hrow;have nc:=HN.out.c5;have nf:=HN.out.f5;go_upto_region 7 with fail;have q2:=qJ HN.out.lt HW.out.lt;refine Kc HN.out ?_;rintro w3 ⟨hnew,hm⟩;simp only[pt]at hnew;clear r0;replace dJ:=qd (dJ.out.mod hm (fun b hb=>by have hh:=N8.out b hb;simp<;>omega));replace HW:=qM hm HW;have z4:=(hm).size;replace ah:=qU ah hm;replace HN:=qd hnew;clear hnew hm;go_wp2;refine bodyPost_ret (v:= .tuple #[.pointer none,.nilIface]) (by simp[results,Tryz.results179,go_sem]) rfl ⟨rfl,HN.out,dJ.out,ah.out⟩
theorem Od (nb tb db rb cap og fb bY eb vb cK t0 g0 t1 g1:Nat)(bI:List Nat)(pfx au job:Int)(T:aC)(Ts:List aC)(n depth next:Nat)(w:World)(h:aj w nb 189 #[.int .i64 pfx,.int .i64 au,pQ tb,.int .i64 job,pQ db])(qF:oW w db rb cap tb og fb bY eb vb cK bI [(t0,g0),(t1,g1)] T Ts n depth next)(sW:T.gs.length≤64)(hnx:next=T.gs.length)(hnf:∀q∈aW db rb fb eb vb tb og bI [(t0,g0),(t1,g1)],q≠nb)(hp:0≤pfx∧pfx≤1000)(hd:0≤au∧au≤1000):
  Calls Tryz.prog 179 #[aL nb] w fun e w'=>∃qb,e= .returned (.tuple #[aL qb,.nilIface])∧aj w' nb 189 #[.int .i64 (2*pfx),.int .i64 (au+1),pQ t0,.int .i64 0,.pointer none]∧aj w' qb 189 #[.int .i64 (2*pfx+1),.int .i64 (au+1),pQ t1,.int .i64 0,.pointer none]∧w.heap.size≤qb∧iw w' [(t0,g0),(t1,g1)] Ts∧Mod [nb,db] w w':=by
 obtain⟨p0,p1⟩:=hp;obtain⟨d0,d1⟩:=hd
 have hw1:IntKind.i64.wrap (2*pfx)=2*pfx:=by rw[IntKind.wrap_i64];omega
 have hw2:IntKind.i64.wrap (au+1)=au+1:=by rw[IntKind.wrap_i64];omega
 have hw3:IntKind.i64.wrap (2*pfx+1)=2*pfx+1:=by rw[IntKind.wrap_i64];omega
 have hnd:=qF.nd;have hdl:=qF.blk.lt;have jm:=qd (qO db rb cap tb og fb bY eb vb cK bI [(t0,g0),(t1,g1)] T Ts n depth next w qF sW (by omega))
 have hz:T.gs.length-next=0:=by omega
 rw[hz]at jm;have HDn:=qd (Ao nb tb db pfx au job (fun w w'=>w.drew=w') w h jm.out);have vI:=qd (KP db rb cap tb og fb bY eb vb cK bI [(t0,g0),(t1,g1)] T Ts n depth next w.drew (qF.mod (Mod.drewN [] w 1) (by simp)) sW hnx);unfold aL at HDn;unfold bX at vI;unfold aL;have hbn:∀b∈[(t0,g0),(t1,g1)],b.1≠nb∧b.2≠nb:=fun b hb=>⟨hnf _ (iA hb).1,hnf _ (iA hb).2⟩;have hnl:=h.lt;have hdn:db≠nb:=hnf _ (by simp[aW]);clear hz jm;have N8:=qd hbn;have HN:=qd (h);have ah:=qd (Mod.refl [nb,db] w);clear h qF hnd hnx sW hnf;go_in;go_wp2_with fail;refine(HDn.out).mono ?_;rintro y w1 ⟨rfl,rfl⟩;clear HDn;replace HN:=qd (HN.out.mod (Mod.drewN [] w 1) (by simp));replace ah:=qd (ah.out.then (Mod.drewN [nb,db] w 1));obtain⟨w1,hw1⟩:∃w1,w1=w.drew:=⟨_,rfl⟩;have hN1:=HN.out;have hm1:=ah.out;rw[show w.drewN 1=w.drew from rfl,←hw1]at hN1 hm1;rw[←hw1]at vI⊢
 have hs1:w.heap.size=w1.heap.size:=by rw[hw1];rfl
 clear HN ah hw1;have HN:=qd hN1;have ah:=qd hm1;clear hN1 hm1;have nc:=HN.out.c5;go_wp2_with fail;refine(vI.out).mono ?_;rintro x w2 ⟨rb2,c2,rfl,hrow,aeg,hts,hm⟩;clear nc;replace HN:=qM hm HN;have z1:=(hm).size;replace ah:=qU ah hm;clear hm vI;have r0:=hrow.at_ 0 t0 rfl;have r1:=hrow.at_ 1 t1 rfl;have hrl:=hrow.lt
 have hrn:rb2≠nb:=by omega
 have dJ:=qd (hts);have HW:=qd (hrow);clear hts hrow;have nc:=HN.out.c5;have nf:=HN.out.f5;go_upto_region 7 with fail;have q2:=qJ HN.out.lt HW.out.lt;refine Kc HN.out ?_;rintro w3 ⟨hnew,hm⟩;simp only[pt]at hnew;clear r0 r1;replace dJ:=qd (dJ.out.mod hm (fun b hb=>by have hh:=N8.out b hb;simp<;>omega));replace HW:=qM hm HW;have z4:=(hm).size;replace ah:=qU ah hm;replace HN:=qd hnew;clear hnew hm;have r1:=HW.out.at_ 1 t1 rfl;go_upto_region 9 with fail;have nc:=HN.out.c5;have nf:=HN.out.f5;refine rT (fun(w':World)=>w'.cell? ⟨nb,0,none⟩=some (.int .i64 pfx)∧w'.cell? ⟨nb,1,none⟩=some (.int .i64 au)) [14,17] ?_;have hHeld:=(⟨nc.1,nc.2.1⟩:_∧_);refine vW 0 rfl ?_;refine vW 1 rfl ?_;refine vW 2 rfl ?_;refine vW 3 rfl ?_;refine vW 4 rfl ?_;refine vT 5 rfl ?_;refine vW 6 rfl ?_;refine vW 7 rfl ?_;refine vW 8 rfl ?_;refine vW 9 rfl ?_;refine vT 10 rfl ?_;refine vW 11 rfl ?_;refine vW 12 rfl ?_;refine vW 13 rfl ?_;refine nT 14 rfl fun K hK=> ?_;go_simp;refine kO hK ?_;clear hK K;refine vL 15 rfl ?_;refine vL 16 rfl ?_;refine nT 17 rfl fun K hK=> ?_;go_simp;refine kO hK ?_;clear hK K;refine aR (by kernel_rfl) ?_ _;have q5:=qJ HN.out.lt HW.out.lt;have hnew:=((HN.out.ak 0 (.int .i64 (2*pfx))).ak 1 (.int .i64 (au+1))).drew;have hm:=((((Mod.refl [nb] w3).sl 0 (.int .i64 (2*pfx))).sl 1 (.int .i64 (au+1))).then (Mod.drewN [nb] _ 1));simp only[pt]at hnew;refine aaq hnew hm ?_;clear hnew hm;rintro w4 ⟨hnew,hm⟩;replace dJ:=qd (dJ.out.mod hm (fun b hb=>by have hh:=N8.out b hb;simp<;>omega))
 replace HW:=qM hm HW;have z7:=(hm).size;replace ah:=qU ah hm;replace HN:=qd hnew;clear hnew hm;have r1:=HW.out.at_ 1 t1 rfl;go_upto_region 10 with fail;have nc:=HN.out.c5;have q8:=qJ HN.out.lt (qJ HW.out.lt ah.out.size);refine rT (fun(w':World)=>w'.cell? ⟨nb,0,none⟩=some (.int .i64 (2*pfx))∧w'.cell? ⟨nb,1,none⟩=some (.int .i64 (au+1))∧w'.cell? ⟨rb2,1,none⟩=some (pQ t1)) [13] ?_;have hHeld:=(⟨nc.1,nc.2.1,r1⟩:_∧_∧_);refine vW 0 rfl ?_;refine vW 1 rfl ?_;refine vW 2 rfl ?_;refine vW 5 rfl ?_;refine vW 6 rfl ?_;refine vW 7 rfl ?_;refine vT 8 rfl ?_;refine vW 9 rfl ?_;refine vW 10 rfl ?_;refine vT 11 rfl ?_;refine nT 3 rfl fun K hK=> ?_;go_simp;refine kO hK ?_;clear hK K;refine vW 4 rfl ?_;refine vW 12 rfl ?_;refine nT 13 rfl fun K hK=> ?_;go_simp;refine kO hK ?_;clear hK K;refine vL 14 rfl ?_;refine vL 15 rfl ?_;refine aR (by kernel_rfl) ?_ _;have q11:=qJ HN.out.lt (qJ HW.out.lt ah.out.size);refine bV (F:=fun v=>aj v w4.heap.size 189 #[.int .i64 (2*pfx+1),.int .i64 (au+1),pQ t1,.int .i64 0,.pointer none]∧Below w4.heap.size w4 v) ⟨(aj.new w4 189 #[.int .i64 (2*pfx+1),.int .i64 (au+1),pQ t1,.int .i64 0,.pointer none]).drew,((Below.refl w4.heap.size w4).alloc (Nat.le_refl _) (.cells #[.int .i64 (2*pfx+1),.int .i64 (au+1),pQ t1,.int .i64 0,.pointer none] 189)).drew⟩ ?_;rintro w5 ⟨hnew,hb⟩;obtain⟨qb,Aj⟩:∃qb,qb=w4.heap.size:=⟨_,rfl⟩;rw[←Aj]at hnew⊢
 replace Aj:w4.heap.size≤qb:=by omega
 replace HN:=qB hb HN;replace dJ:=qd (dJ.out.mod (Mod.of_below hb []) (by simp));replace HW:=qB hb HW;have z14:=(hb).size;replace ah:=qT ah hb;have HQ:=qd (hnew);clear hnew hb;go_wp2;refine bodyPost_ret (v:= .tuple #[pQ qb,.nilIface]) (by simp[results,Tryz.results179,go_sem]) rfl ⟨qb,rfl,HN.out,HQ.out,by omega,dJ.out,ah.out⟩
section
variable {T : aC} {add del l l' : List av} {e : av} {i s : Nat}
structure TG (T:aC):Prop where
 inv:zA T.gs
 ok:mg T
def load (T:aC):Nat:=(aM T.gs).length+eT T.gs
theorem TG.Te (h:TG T):T.live+T.bW=(load T:Int):=by
 have h1:=h.ok.live;have h2:=h.ok.bW;unfold load;omega
def uo (del add l l':List av):Prop:=∃rest,l.Perm (del++rest)∧l'.Perm (add++rest)
theorem uo.wrap (h:uo del add l l')(A B:List av):uo del add (A++(l++B)) (A++(l'++B)):=by
 obtain⟨r,h1,h2⟩:=h;refine⟨A++(r++B), ?_, ?_⟩
 ·exact((h1.append_right B).append_left A).trans (by rw[List.append_assoc,←List.append_assoc A,←List.append_assoc del];exact(List.perm_append_comm).append_right _)
 ·exact((h2.append_right B).append_left A).trans (by rw[List.append_assoc,←List.append_assoc A,←List.append_assoc add];exact(List.perm_append_comm).append_right _)
theorem uo.perm {k k':List av}(h:uo del add l l')(h1:k.Perm l)(h2:k'.Perm l'):uo del add k k':=by
 obtain⟨r,h3,h4⟩:=h;exact⟨r,h1.trans h3,h2.trans h4⟩
theorem uo.len (h:uo del add l l'):l'.length+del.length=l.length+add.length:=by
 obtain⟨r,h3,h4⟩:=h;have h5:=h3.length_eq;have h6:=h4.length_eq;rw[List.length_append]at h5 h6;omega
theorem uo.mem (h:uo del add l l')(he:e∈l'):e∈add∨e∈l:=by
 obtain⟨r,h3,h4⟩:=h;rcases List.mem_append.1 (h4.mem_iff.1 he)with h5|h5
 ·exact .inl h5
 ·exact .inr (h3.mem_iff.2 (by simp[h5]))
structure Bz (del add:List av)(T T':aC):Prop where
 tg:TG T'
 len:T'.gs.length=T.gs.length
 Iy:uo del add (aM T.gs) (aM T'.gs)
 load_:load T'≤load T+(add.length-del.length)
 at_:∀i s e,aF T'.gs i s= .full e→del=[]∨∃e0,aF T.gs i s= .full e0
theorem Q0 (h:TG T)(hk:∀x∈aM T.gs,x.key≠e.key)(ho:load T<8*T.gs.length):
  (aJ T.gs e.key e.hash).1=none∧∃i s,(aJ T.gs e.key e.hash).2.1=some (i,s)∧vw T.gs e.hash i s:=
 ⟨rH hk,UE h.ok.pow (CO h.ok.wide ho) (rH hk)⟩
theorem Cn {x:Slot}(h:x.isFull=false):x.ents=[]:=by cases x<;>first|rfl|cases h
theorem Oe (h:TG T)(hf:vw T.gs e.hash i s)(hk:∀x∈aM T.gs,x.key≠e.key):Bz [] [e] T (jC T i s e):=by
 have hf':=hf;obtain⟨hi,hs,hn,_⟩:=hf';have h1:=CK hi hs (.full e);have h2:=wU hi hs (.full e);rw[Cn hn,List.nil_append]at h1;refine⟨⟨aaY h.inv hf hk,h.ok.place hi hs hn e⟩,gY _ _ _ _,⟨aM T.gs,by simp,h1⟩, ?_,fun j k x hx=> .inl rfl⟩
 ·have h3:=h1.length_eq;have h4:(Slot.full e).kJ=0:=rfl;rw[List.length_append]at h3;show(aM (putAt T.gs i s (.full e))).length+eT (putAt T.gs i s (.full e))≤(aM T.gs).length+eT T.gs+(1-0);rw[h4]at h2;have h5:(Slot.full e).ents.length=1:=rfl;omega
theorem Og (h:TG T)(he:aF T.gs i s= .full e):Bz [e] [] T (iM T i s)∧(∀j k x,aF (iM T i s).gs j k= .full x↔aF T.gs j k= .full x∧¬(j=i∧k=s)):=by
 obtain⟨hi,hs⟩:=jY (gs:=T.gs) (i:=i) (s:=s) (by rw[he];exact fun h=>by cases h)
 obtain⟨x,hx,hxe,jZ⟩:∃x:Slot,(iM T i s).gs=putAt T.gs i s x∧(x.isEmpty=true→dH (T.gs.getD i [])=true)∧x.isFull=false:=by
  refine⟨_,rfl, ?_, ?_⟩<;>cases dH (T.gs.getD i [])<;>simp[Slot.isEmpty,Slot.isFull]
 have acn:∀y,x≠ .full y:=fun y hy=>by rw[hy]at jZ;cases jZ
 have h1:=CK hi hs x;have h2:=wU hi hs x;rw[Cn jZ,List.nil_append,he]at h1
 have hat:∀j k y,aF (iM T i s).gs j k= .full y↔aF T.gs j k= .full y∧¬(j=i∧k=s):=fun j k y=>by
  rw[hx,kX _ _ _ _ _ _ hi hs];by_cases hij:i=j∧s=k
  ·rw[if_pos hij];exact⟨fun hh=>absurd hh (acn y),fun hh=>absurd ⟨hij.1.symm,hij.2.symm⟩ hh.2⟩
  ·rw[if_neg hij];exact⟨fun hh=>⟨hh,fun hh'=>hij ⟨hh'.1.symm,hh'.2.symm⟩⟩,fun hh=>hh.1⟩
 refine⟨⟨⟨by rw[hx];exact UG h.inv hi hs hxe acn,h.ok.erase he⟩,Cm _ _ _,⟨aM (iM T i s).gs,by rw[hx];exact h1.symm,by simp⟩, ?_,fun j k y hy=> .inr ⟨y,((hat j k y).1 hy).1⟩⟩,hat⟩;have h3:=h1.length_eq;rw[List.length_append]at h3;have h5:(Slot.full e).ents.length=1:=rfl
 have h6:x.kJ≤1:=by unfold Slot.kJ;split<;>omega
 unfold load;rw[hx];omega
theorem Tf (h:TG T){v:Nat}(he:aF T.gs i s= .full e):Bz [e] [{e with val:=v}] T (replaceM T i s v e):=by
 obtain⟨hi,hs⟩:=jY (gs:=T.gs) (i:=i) (s:=s) (by rw[he];exact fun h=>by cases h);obtain⟨r1,r2,h1,h2⟩:=EL hi hs;have h3:=wU hi hs (.full {e with val:=v});rw[he]at h1 h3;have h4:aM (replaceM T i s v e).gs=r1++([{e with val:=v}]++r2):=h2 _;have h1':aM T.gs=r1++([e]++r2):=h1;refine⟨⟨PU h.inv he rfl rfl,h.ok.replace he⟩,gY _ _ _ _,⟨r1++r2, ?_, ?_⟩, ?_,fun j k x hx=> ?_⟩
 ·rw[h1',←List.append_assoc,←List.append_assoc];exact List.perm_append_comm.append_right _
 ·rw[h4,←List.append_assoc,←List.append_assoc];exact List.perm_append_comm.append_right _
 ·unfold load
  have h5:eT (replaceM T i s v e).gs=eT T.gs:=by
   have:(Slot.full e).kJ=0:=rfl;have h6:(Slot.full {e with val:=v}).kJ=0:=rfl;show eT (putAt T.gs i s _)=_;omega
  rw[h4,h1',h5];simp
 ·have hx':aF (putAt T.gs i s (.full {e with val:=v})) j k= .full x:=hx;rw[kX _ _ _ _ _ _ hi hs]at hx';split at hx'
  ·next hij=>exact .inr ⟨e,by rw[←hij.1,←hij.2];exact he⟩
  ·exact .inr ⟨x,hx'⟩
theorem JB (h:TG T)(he:e∈aM T.gs):∃i s,(aJ T.gs e.key e.hash).1=some (i,s)∧aF T.gs i s= .full e:=by
 obtain⟨i,s,hs⟩:=rG.1 he;exact⟨i,s,Sb h.inv hs,hs⟩
theorem JC {n:Nat}(h:Pw n):TG (dR n n)∧aM (dR n n).gs=[]∧load (dR n n)=0:=by
 have h1:=abf h;have h2:(dR n n).gs=bare n:=yV n
 have h3:aM (dR n n).gs=[]:=by
  have:=h1.live;exact List.length_eq_zero_iff.1 (by simp[dR]at this;simpa[dR]using this.symm)
 have h4:=h1.bW;refine⟨⟨by rw[h2];exact MV h,h1⟩,h3, ?_⟩;unfold load;rw[h3];simp[dR]at h4⊢;omega
theorem Q5 (h:TG T)(hi:i<T.gs.length):∀k,k≤8→TG (takeN T i k)∧(∀j s e,aF (takeN T i k).gs j s= .full e↔aF T.gs j s= .full e∧¬(j=i∧s<k))∧
  (aM T.gs).Perm (bT ((T.gs.getD i []).take k)++aM (takeN T i k).gs)∧load (takeN T i k)≤load T
 |0,_=>⟨h,fun j s e=>by simp[takeN],by simp[bT,takeN],Nat.le_refl _⟩
 |k+1,hk=>by
  obtain⟨h1,h2,h3,h4⟩:=Q5 h hi k (by omega);have hw:=h.ok.wide.at_ hi;have hg:(T.gs.getD i [])[k]?=some (aF T.gs i k):=Ba (by omega)
  have ht:bT ((T.gs.getD i []).take (k+1))=bT ((T.gs.getD i []).take k)++(aF T.gs i k).ents:=by
   rw[List.take_add_one,hg];unfold bT;simp
  show TG (fQ _ _ _)∧(∀j s e,aF (fQ _ _ _).gs j s= .full e↔_)∧_∧load (fQ _ _ _)≤_
  cases hx:aF T.gs i k with
  |full e=>
   have he:aF (takeN T i k).gs i k= .full e:=(h2 i k e).2 ⟨hx,by omega⟩;obtain⟨h5,h6⟩:=Og h1 he
   have hE:fQ (takeN T i k) i k=iM (takeN T i k) i k:=by unfold fQ;rw[he];rfl
   rw[hE];refine⟨h5.tg,fun j s x=> ?_, ?_,Nat.le_trans h5.load_ (by simpa using h4)⟩
   ·rw[h6,h2];constructor
    ·rintro⟨⟨a,b⟩,c⟩;refine⟨a,fun hh=> ?_⟩;by_cases hs:s=k
     ·exact c ⟨hh.1,hs⟩
     ·exact b ⟨hh.1,by omega⟩
    ·rintro⟨a,b⟩;exact⟨⟨a,fun hh=>b ⟨hh.1,by omega⟩⟩,fun hh=>b ⟨hh.1,by omega⟩⟩
   ·rw[takeN,hE,ht,hx,List.append_assoc];obtain⟨r,h7,h8⟩:=h5.Iy;exact h3.trans ((h7.trans ((h8.symm).append_left _)).append_left _)
  |empty=>
   have hE:fQ (takeN T i k) i k=takeN T i k:=by
    unfold fQ
    cases hy:aF (takeN T i k).gs i k with
    |full y=>have:=((h2 i k y).1 hy).1;rw[hx]at this;cases this
    |_=>rfl
   rw[hE];refine⟨h1,fun j s x=> ?_,by rw[takeN,hE,ht,hx];simpa[Slot.ents]using h3,h4⟩;rw[h2]
   exact⟨fun⟨a,b⟩=>⟨a,fun hh=>by
    by_cases hs:s=k
    ·rw[hh.1,hs,hx]at a;cases a
    ·exact b ⟨hh.1,by omega⟩⟩,fun⟨a,b⟩=>⟨a,fun hh=>b ⟨hh.1,by omega⟩⟩⟩
  |qm=>
   have hE:fQ (takeN T i k) i k=takeN T i k:=by
    unfold fQ
    cases hy:aF (takeN T i k).gs i k with
    |full y=>have:=((h2 i k y).1 hy).1;rw[hx]at this;cases this
    |_=>rfl
   rw[hE];refine⟨h1,fun j s x=> ?_,by rw[takeN,hE,ht,hx];simpa[Slot.ents]using h3,h4⟩;rw[h2]
   exact⟨fun⟨a,b⟩=>⟨a,fun hh=>by
    by_cases hs:s=k
    ·rw[hh.1,hs,hx]at a;cases a
    ·exact b ⟨hh.1,by omega⟩⟩,fun⟨a,b⟩=>⟨a,fun hh=>b ⟨hh.1,by omega⟩⟩⟩
theorem BA (h:TG T)(hi:i<T.gs.length):TG (takeN T i 8)∧(∀j s e,aF (takeN T i 8).gs j s= .full e↔aF T.gs j s= .full e∧j≠i)∧
  (aM T.gs).Perm (bT (T.gs.getD i [])++aM (takeN T i 8).gs):=by
 obtain⟨h1,h2,h3,h4⟩:=Q5 h hi 8 (Nat.le_refl _);have hw:=h.ok.wide.at_ hi;rw[List.take_of_length_le (by omega)]at h3;refine⟨h1,fun j s e=> ?_,h3⟩;rw[h2];constructor
 ·rintro⟨a,b⟩;refine⟨a,fun hj=>b ⟨hj, ?_⟩⟩;subst hj;have:=(jY (gs:=T.gs) (i:=j) (s:=s) (by rw[a];exact fun h=>by cases h)).2;omega
 ·rintro⟨a,b⟩;exact⟨a,fun hh=>b hh.1⟩
end
section
variable {d j m n : Nat} {Ts : List aC} {T : aC}
def loads (Ts:List aC):Nat:=(Ts.map load).sum
def dh (Ts:List aC):List av:=Ts.flatMap fun T=>aM T.gs
theorem Ap {α:Type}{l:List α}{x:α}(h:l[j]?=some x):l=l.take j++x::l.drop (j+1)∧∀y,l.set j y=l.take j++y::l.drop (j+1):=by
 obtain⟨hj,rfl⟩:=List.getElem?_eq_some_iff.1 h;refine⟨?_,fun y=>oH hj y⟩;have:=oH hj l[j]
 rwa [List.set_getElem_self]at this
theorem KS (h:Ts[j]?=some T)(T':aC):loads (Ts.set j T')+load T=loads Ts+load T':=by
 obtain⟨h1,h2⟩:=Ap h
 have h3:loads Ts=loads (Ts.take j++T::Ts.drop (j+1)):=by rw[←h1]
 rw[h2 T',h3];unfold loads;simp only[List.map_append,List.map_cons,List.sum_append,List.sum_cons];omega
theorem Q6 (h:Ts[j]?=some T):load T≤loads Ts:=by
 obtain⟨h1,h2⟩:=Ap h
 have h3:loads Ts=loads (Ts.take j++T::Ts.drop (j+1)):=by rw[←h1]
 rw[h3];unfold loads;simp only[List.map_append,List.map_cons,List.sum_append,List.sum_cons];omega
theorem Dy (h:Ts[j]?=some T):∃A B,dh Ts=A++(aM T.gs++B)∧∀T',dh (Ts.set j T')=A++(aM T'.gs++B):=by
 obtain⟨h1,h2⟩:=Ap h;refine⟨dh (Ts.take j),dh (Ts.drop (j+1)), ?_,fun T'=> ?_⟩
 ·have h3:dh Ts=dh (Ts.take j++T::Ts.drop (j+1)):=by rw[←h1]
  rw[h3];unfold dh;simp
 ·rw[h2 T'];unfold dh;simp
theorem nJ {e:av}:e∈dh Ts↔∃(j:Nat) (T:aC),Ts[j]?=some T∧e∈aM T.gs:=by
 unfold dh;rw[List.mem_flatMap];constructor
 ·rintro⟨T,h1,h2⟩;obtain⟨j,hj⟩:=List.getElem?_of_mem h1;exact⟨j,T,hj,h2⟩
 ·rintro⟨j,T,hj,h2⟩;exact⟨T,List.mem_of_getElem? hj,h2⟩
structure zG (m n d:Nat)(Ts:List aC):Prop where
 len:Ts.length=m
 tg:∀(j:Nat) (T:aC),Ts[j]?=some T→TG T∧T.gs.length=n
 side:∀(j:Nat) (T:aC) (e:av),Ts[j]?=some T→e∈aM T.gs→dB m d e.hash=j
theorem Q7 {h:Nat}(hm:m=1∨m=2):dB m d h<m:=by
 unfold dB uQ;rcases hm with rfl|rfl
 ·simp
 ·simp;omega
theorem zG.ak (h:zG m n d Ts){T':aC}{del add:List av}(hj:Ts[j]?=some T)(hc:Bz del add T T')(ha:∀e∈add,dB m d e.hash=j):zG m n d (Ts.set j T'):=by
 have hset:∀(i:Nat) (X:aC),(Ts.set j T')[i]?=some X→(i=j∧X=T')∨(i≠j∧Ts[i]?=some X):=fun i X hX=>by
  rw[List.getElem?_set]at hX;by_cases hij:j=i
  ·rw[if_pos hij]at hX;split at hX
   ·cases hX;exact .inl ⟨hij.symm,rfl⟩
   ·cases hX
  ·rw[if_neg hij]at hX;exact .inr ⟨fun hh=>hij hh.symm,hX⟩
 refine⟨by rw[List.length_set];exact h.len,fun i X hX=> ?_,fun i X e hX he=> ?_⟩
 ·rcases hset i X hX with⟨rfl,rfl⟩|⟨_,h2⟩
  ·exact⟨hc.tg,hc.len.trans (h.tg _ _ hj).2⟩
  ·exact h.tg _ _ h2
 ·rcases hset i X hX with⟨rfl,rfl⟩|⟨_,h2⟩
  ·rcases hc.Iy.mem he with h3|h3
   ·exact ha e h3
   ·exact h.side _ _ _ hj h3
  ·exact h.side _ _ _ h2 he
theorem KT (hn:Pw n):zG m n d (List.replicate m (dR n n))∧dh (List.replicate m (dR n n))=[]∧loads (List.replicate m (dR n n))=0:=by
 obtain⟨h1,h2,h3⟩:=JC hn
 have hm:∀(j:Nat) (T:aC),(List.replicate m (dR n n))[j]?=some T→T=dR n n:=fun j T hT=>by
  rw[List.getElem?_replicate]at hT;split at hT
  ·cases hT;rfl
  ·cases hT
 refine⟨⟨by simp,fun j T hT=> ?_,fun j T e hT he=> ?_⟩, ?_, ?_⟩
 ·rw[hm j T hT];exact⟨h1,oU (Nat.le_refl _)⟩
 ·rw[hm j T hT,h2]at he;cases he
 ·exact List.eq_nil_iff_forall_not_mem.2 fun e he=>by
   obtain⟨j,T,hT,he⟩:=nJ.1 he;rw[hm j T hT,h2]at he;cases he
 ·unfold loads;simp[h3]
theorem moves {B:Nat}(hm:m=1∨m=2)(hB:B≤7*n):∀(es:List av) (Ts:List aC) (x:bL),zG m n d Ts→((es++dh Ts).map av.key).Nodup→(∀e∈es,e.hash<18446744073709551616)→loads Ts+es.length≤B→
  Fits m d Ts es∧zG m n d (eD m d (x,Ts) es).2∧(dh (eD m d (x,Ts) es).2).Perm (es++dh Ts)∧loads (eD m d (x,Ts) es).2≤loads Ts+es.length∧∃c,(eD m d (x,Ts) es).1=x.add cV c
 | [],Ts,x,h,_,_,_=>⟨trivial,h,by exact List.Perm.refl _,Nat.le_refl _,0,rfl⟩
 |e::es,Ts,x,h,hk,h64,hl=>by
  obtain⟨T,hT⟩:∃T,Ts[dB m d e.hash]?=some T:=⟨_,List.getElem?_eq_getElem (by rw[h.len];exact Q7 hm)⟩;obtain⟨hg,hn⟩:=h.tg _ _ hT
  have hgd:Ts.getD (dB m d e.hash) noT=T:=by rw[List.getD_eq_getElem?_getD,hT];rfl
  have hlT:=Q6 hT;simp only[List.length_cons]at hl
  have Io:∀y∈aM T.gs,y.key≠e.key:=fun y hy he=>by
   rw[List.cons_append,List.map_cons,List.nodup_cons]at hk;exact hk.1 (by rw[←he];exact List.mem_map_of_mem (List.mem_append_right _ (nJ.2 ⟨_,_,hT,hy⟩)))
  obtain⟨hs1,i,s,hs2,hf⟩:=Q0 hg Io (by omega);have hc:=Oe hg hf Io
  have hpn:Dr T e=jC T i s e:=by unfold Dr;rw[hs2]
  have hld:=hg.Te;have hcp:NP T e:=⟨hg.ok,h64 e (by simp),hs1,⟨i,s,hs2⟩,by omega⟩;have hFr:=h.ak hT hc (fun y hy=>by simp at hy;rw[hy]);have hls:=KS hT (jC T i s e);have hlp:=hc.load_;simp only[List.length_cons,List.length_nil]at hlp;obtain⟨A,B',hsp1,hsp2⟩:=Dy hT
  have hpe:(dh (Ts.set (dB m d e.hash) (jC T i s e))).Perm (e::dh Ts):=by
   obtain⟨r,h7,h8⟩:=hc.Iy.wrap A B';rw[hsp2,hsp1];exact h8.trans (by simpa using h7.symm)
  have ih:=moves (B:=B) hm hB es (Ts.set (dB m d e.hash) (jC T i s e)) (x.add cV (aJ (Ts.getD (dB m d e.hash) noT).gs e.key e.hash).2.2) hFr
   (((hpe.append_left es).trans List.perm_middle).map av.key|>.nodup_iff.2 (by simpa using hk)) (fun y hy=>h64 y (by simp[hy])) (by omega)
  obtain⟨ih1,ih2,ih3,ih4,c,ih5⟩:=ih
  have hst:eD m d (x,Ts) (e::es)=eD m d (x.add cV (aJ (Ts.getD (dB m d e.hash) noT).gs e.key e.hash).2.2,Ts.set (dB m d e.hash) (jC T i s e)) es:=by
   unfold eD;rw[List.foldl_cons];congr 1;unfold uJ;simp only;rw[hgd,hpn]
  rw[hst];refine⟨⟨⟨T,hT,hcp⟩,by rw[hgd,hpn];exact ih1⟩,ih2,ih3.trans ((hpe.append_left es).trans List.perm_middle),by simp only[List.length_cons];omega,_,ih5.trans (bL.add_add _ _ _ _)⟩
theorem KU (k d:Nat)(x y:bL):∀(es:List av) (Ts:List aC),(eD k d (x,Ts) es).2=(eD k d (y,Ts) es).2
 | [],_=>rfl
 |e::es,Ts=>by
  unfold eD;rw[List.foldl_cons,List.foldl_cons];exact KU k d _ _ es _
end
end Go.Proofs.YtnfjjbpmhcbelaaGreatDoor
