/- A node's small functions by their contracts. -/
import Derived.Test.YthfgacnlojmmfaaGreatDoorCoBB
import Derived.Test.YthfgacnlojmmfaaGreatDoorCoN
import Derived.Test.YthfgacnlojmmfaaGreatDoorLaneP
import Derived.Test.YthfgacnlojmmfaaGreatDoorCoBC
namespace Go.Proofs.YthfgacnlojmmfaaGreatDoor
set_option maxRecDepth 100000
set_option maxHeartbeats 8000000
open Go.RowKit AmC Go
theorem node_Prefix (nb tb:Nat)(pfx dpt job:Int)(dv:Value)(w:World)(h:Blk w nb 190 #[.int .i64 pfx,.int .i64 dpt,.pointer (some ⟨tb,0,none⟩),.int .i64 job,dv]):
  Calls Tryz.prog 123 #[nodeP nb] w fun e w'=>e= .returned (.tuple #[.int .i64 pfx,.int .i64 dpt])∧w.drew=w':=by
 obtain⟨c0,c1,c2,c3,c4⟩:=h.c5;clear h;unfold nodeP;go_in;go_upto_region 1 with fail;go_region;go_wp2;refine bodyPost_ret (v:= .tuple #[.int .i64 pfx,.int .i64 dpt]) (by simp[results,Tryz.results123,go_sem]) rfl ⟨rfl,rfl⟩
theorem node_Left_dual (nb tb db:Nat)(pfx dpt job:Int)(v:Int)(Post:World→World→Prop)(w:World)(h:Blk w nb 190 #[.int .i64 pfx,.int .i64 dpt,.pointer (some ⟨tb,0,none⟩),.int .i64 job,.pointer (some ⟨db,0,none⟩)])(hc:Calls Tryz.prog 247 #[dualP db] w fun e w'=>e= .returned (.int .i64 v)∧Post w w'):
  Calls Tryz.prog 284 #[nodeP nb] w fun e w'=>e= .returned (.int .i64 v)∧Post w w':=by
 have HC:=qd hc;unfold dualP at HC;clear hc;obtain⟨c0,c1,c2,c3,c4⟩:=h.c5;clear h;unfold nodeP;go_in;go_wp2_with fail;refine(HC.out).mono ?_;rintro y w1 ⟨rfl,hp⟩;have HP:=qd hp;clear hp;go_wp2;go_ret;exact⟨rfl,HP.out⟩
theorem node_Left_tab (nb tb:Nat)(pfx dpt job:Int)(w:World)(h:Blk w nb 190 #[.int .i64 pfx,.int .i64 dpt,.pointer (some ⟨tb,0,none⟩),.int .i64 job,.pointer none]):
  Calls Tryz.prog 284 #[nodeP nb] w fun e w'=>e= .returned (.int .i64 0)∧w=w':=by
 obtain⟨c0,c1,c2,c3,c4⟩:=h.c5;clear h;unfold nodeP;go_in;go_wp2;go_ret;exact⟨rfl,rfl⟩
theorem node_Step_dual (nb tb db:Nat)(pfx dpt job:Int)(P:MP)(Post:World→World→Prop)(w:World)(h:Blk w nb 190 #[.int .i64 pfx,.int .i64 dpt,.pointer (some ⟨tb,0,none⟩),.int .i64 job,.pointer (some ⟨db,0,none⟩)])(hc:Calls Tryz.prog 286 #[dualP db,.pointer (some ⟨P.mb,P.mo,none⟩)] w fun e w'=>e= .returned (.bool true)∧Post w w'):
  Calls Tryz.prog 285 #[nodeP nb,.pointer (some ⟨P.mb,P.mo,none⟩)] w fun e w'=>e= .returned (.bool true)∧Post w w':=by
 have HC:=qd hc;unfold dualP at HC;clear hc;obtain⟨c0,c1,c2,c3,c4⟩:=h.c5;clear h;unfold nodeP;go_in;go_wp2_with fail;refine(HC.out).mono ?_;rintro y w1 ⟨rfl,hp⟩;have HP:=qd hp;clear hp;go_wp2;go_ret;exact⟨rfl,HP.out⟩
theorem node_Done_dual (nb tb db:Nat)(pfx dpt job:Int)(Post:World→World→Prop)(w:World)(h:Blk w nb 190 #[.int .i64 pfx,.int .i64 dpt,.pointer (some ⟨tb,0,none⟩),.int .i64 job,.pointer (some ⟨db,0,none⟩)])(hc:Calls Tryz.prog 247 #[dualP db] w fun e w'=>e= .returned (.int .i64 0)∧Post w w'):
  Calls Tryz.prog 216 #[nodeP nb] w fun e w'=>e= .returned (.bool true)∧Post w w':=by
 have HC:=qd hc;unfold dualP at HC;clear hc;obtain⟨c0,c1,c2,c3,c4⟩:=h.c5;clear h;unfold nodeP;go_in;go_wp2_with fail;refine(HC.out).mono ?_;rintro y w1 ⟨rfl,hp⟩;have HP:=qd hp;clear hp;go_wp2;go_ret;exact⟨rfl,HP.out⟩
theorem node_Wants_dual (nb tb db:Nat)(pfx dpt job gl:Int)(w:World)(h:Blk w nb 190 #[.int .i64 pfx,.int .i64 dpt,.pointer (some ⟨tb,0,none⟩),.int .i64 job,.pointer (some ⟨db,0,none⟩)]):
  Calls Tryz.prog 104 #[nodeP nb,.int .i64 gl] w fun e w'=>e= .returned (.tuple #[.int .i64 0,.bool false])∧w=w':=by
 obtain⟨c0,c1,c2,c3,c4⟩:=h.c5;clear h;unfold nodeP;go_in;go_wp2;refine bodyPost_ret (v:= .tuple #[.int .i64 0,.bool false]) (by simp[results,Tryz.results104,go_sem]) rfl ⟨rfl,rfl⟩
theorem node_Wants_tab (nb tb gb lo gl:Nat)(pfx job:Int)(T:TabM)(w:World)(h:Blk w nb 190 #[.int .i64 pfx,.int .i64 (lo:Int),.pointer (some ⟨tb,0,none⟩),.int .i64 job,.pointer none])(ht:TabAt w tb gb T)(hok:TOk T):
  Calls Tryz.prog 104 #[nodeP nb,.int .i64 (gl:Int)] w fun e w'=>e= .returned (.tuple #[.int .i64 ((whichK T.live T.tombs T.gs.length lo gl:Nat):Int),.bool (doubleB T.live T.tombs T.gs.length lo gl)])∧Below w.heap.size w w':=by
 have hg64:=hok.pow.le;have hsm:=hok.small;have HPw:=qd hok.pow;have HSm:=qd hsm;obtain⟨n,hn⟩:∃n,n=T.gs.length:=⟨_,rfl⟩;have HL:=qd (fun V hV=>table_Len tb gb T V hV);have HTm:=qd (fun V hV=>table_Tombs tb gb T V hV);have HG:=qd (fun V hV=>table_Groups tb gb T V hV);have HWh:=qd (fun V:World=>choose_Which T.live T.tombs T.gs.length lo gl hok.pow ⟨hsm.l0,hsm.l1⟩ ⟨hsm.t0,hsm.t1⟩ V);have HDb:=qd (fun V:World=>choose_Double T.live T.tombs T.gs.length lo gl hok.pow ⟨hsm.l0,hsm.l1⟩ ⟨hsm.t0,hsm.t1⟩ V);unfold tabP at HL HTm HG;clear hok hsm;have HN:=qd (h);have HT:=qd (ht);have Hmod:=qd (Mod.refl [] w);clear h ht;unfold nodeP;go_in;have nc:=HN.out.c5;go_upto_region 3 with fail;refine rT (fun(w':World)=>w'.cell? ⟨nb,2,none⟩=some (.pointer (some ⟨tb,0,none⟩))) [] ?_;have hHeld:=nc.2.2.1;refine vW 0 rfl ?_;refine vW 1 rfl ?_;refine vW 2 rfl ?_;refine vT 3 rfl ?_;refine vW 5 rfl ?_;refine vW 6 rfl ?_;refine vW 7 rfl ?_;refine vT 8 rfl ?_;refine vW 10 rfl ?_;refine vW 11 rfl ?_;refine vW 12 rfl ?_;refine vT 13 rfl ?_;refine nT 4 rfl fun K hK=> ?_;go_simp;refine(HL.out _ (HT.out.below (Below.refl _ _).drew)).mono ?_;rintro y w2 ⟨rfl,rfl⟩;go_wp2_with fail;have hHeld:=nc.2.2.1;refine kO hK ?_;clear hK K;refine nT 9 rfl fun K hK=> ?_;go_simp;refine(HTm.out _ (HT.out.below (Below.refl _ _).drew)).mono ?_;rintro y w2 ⟨rfl,rfl⟩;go_wp2_with fail;have hHeld:=nc.2.2.1;refine kO hK ?_;clear hK K;refine nT 14 rfl fun K hK=> ?_;go_simp;refine(HG.out _ (HT.out.below (Below.refl _ _).drew)).mono ?_
 rintro y w2 ⟨rfl,rfl⟩;go_wp2_with fail;have hHeld:=nc.2.2.1;refine kO hK ?_;clear hK K;refine vW 15 rfl ?_;refine vW 16 rfl ?_;refine vW 17 rfl ?_;refine doneT (by kernel_rfl) ?_ _;refine nameW (F:=fun v=>Mod [] w v) (Mod.drewN [] w 1) ?_;rintro w1 hm;clear nc;replace HN:=qM hm HN;replace HT:=qM hm HT;have z1:=(hm).size;replace Hmod:=qU Hmod hm;clear hm;go_upto_region 4 with fail;have nc:=HN.out.c5;refine rT (fun(w':World)=>w'.cell? ⟨nb,1,none⟩=some (.int .i64 (lo:Int))) [] ?_;have hHeld:=nc.2.1;refine vW 0 rfl ?_;refine vW 1 rfl ?_;refine vW 2 rfl ?_;refine vW 3 rfl ?_;refine vW 4 rfl ?_;refine vW 5 rfl ?_;refine vT 6 rfl ?_;refine vW 7 rfl ?_;refine vW 9 rfl ?_;refine vW 10 rfl ?_;refine vW 11 rfl ?_;refine vW 12 rfl ?_;refine vW 13 rfl ?_;refine vW 14 rfl ?_;refine vT 15 rfl ?_;refine vW 16 rfl ?_;refine nT 8 rfl fun K hK=> ?_;go_simp;refine(HWh.out _).mono ?_;rintro y w2 ⟨rfl,rfl⟩;go_wp2_with fail;have hHeld:=nc.2.1;refine kO hK ?_;clear hK K;refine nT 17 rfl fun K hK=> ?_;go_simp;refine(HDb.out _).mono ?_;rintro y w2 ⟨rfl,rfl⟩;go_wp2_with fail;have hHeld:=nc.2.1;refine kO hK ?_;clear hK K;refine vW 18 rfl ?_;refine vW 19 rfl ?_;refine doneT (by kernel_rfl) ?_ _;have HFin:=qd (show Below w.heap.size w w1.drew from(Hmod.out.to_below).trans ((Below.refl _ _).drew.mono Hmod.out.size));go_wp2
 refine bodyPost_ret (v:= .tuple #[.int .i64 ((whichK T.live T.tombs T.gs.length lo gl:Nat):Int),.bool (doubleB T.live T.tombs T.gs.length lo gl)]) (by simp[results,Tryz.results104,go_sem]) rfl ⟨rfl,HFin.out⟩
theorem DuNew.mod {w w1 w2:World}{db ob og:Nat}{T:TabM}{n m depth:Nat}{S:List Nat}(h:DuNew w w1 db ob og T n m depth)(hm:Mod S w1 w2)(hS:∀k∈S,k<w.heap.size∧k≠ob∧k≠og):DuNew w w2 db ob og T n m depth:=by
 obtain⟨rb,cap,bl,h1,h2,h3,h4,h5⟩:=h;refine⟨rb,cap,bl,h1,h2,h3,h4,h5.mod hm fun q hq hk=> ?_⟩;have hh:=hS q hk;unfold footB at hq;simp only[List.mem_cons]at hq;rcases hq with e|e|e|e|e
 ·omega
 ·omega
 ·exact hh.2.1 e
 ·exact hh.2.2 e
 ·have:=h3 q e;omega
theorem node_New (w:World):
  Calls Tryz.prog 67 #[.int .i64 0,.int .i64 0] w fun e w'=>∃nb tb gb,e= .returned (.tuple #[nodeP nb,.nilIface])∧Blk w' nb 190 #[.int .i64 0,.int .i64 0,.pointer (some ⟨tb,0,none⟩),.int .i64 0,.pointer none]∧TabAt w' tb gb (prepT 1 1)∧(w.heap.size≤nb∧w.heap.size≤tb∧w.heap.size≤gb∧nb≠tb∧nb≠gb)∧Below w.heap.size w w':=by
 have HL:=qd (split_Low 0 0 (by omega) (by omega) w);have HN:=qd (table_New 1 (.inl rfl) w);unfold tabP at HN;unfold nodeP;go_in;go_wp2_with fail;refine(HL.out).mono ?_;rintro y w1 ⟨rfl,rfl⟩;go_wp2_with fail;refine(HN.out).mono ?_;rintro y w1 ⟨tb,gb,htb,hgb,rfl,hT,hb⟩;have HT:=qd hT;have Hb:=qd hb;clear hT hb;go_wp2;refine bodyPost_ret (v:= .tuple #[.pointer (some ⟨w1.heap.size,0,none⟩),.nilIface]) (by simp[results,Tryz.results67,go_sem]) rfl ?_;have hbs:=Hb.out.size;exact⟨w1.heap.size,tb,gb,rfl,Blk.new w1 _ _,HT.out.below ((Below.refl _ _).alloc (Nat.le_refl _) _),by have:=HT.out.ltT;have:=HT.out.ltG;omega,Hb.out.alloc hbs _⟩
theorem node_Start (nb tb gb kind each many dpt:Nat)(pfx job:Int)(T:TabM)(hd:dpt<5∨many=1∧dpt≤5)(w:World)(h:Blk w nb 190 #[.int .i64 pfx,.int .i64 (dpt:Int),.pointer (some ⟨tb,0,none⟩),.int .i64 job,.pointer none])(ht:TabAt w tb gb T)(hok:TOk T)(hpe:Pw each)(hk:kind=1∧each=T.gs.length∧many=1∨kind=2∧each=2*T.gs.length∧many=1∨kind=3∧each=T.gs.length∧many=2)(hnt:nb≠tb)(hng:nb≠gb):
  Calls Tryz.prog 106 #[nodeP nb,.int .i64 (kind:Int)] w fun e w'=>e= .returned .nilIface∧∃db,Blk w' nb 190 #[.int .i64 pfx,.int .i64 (dpt:Int),.pointer (some ⟨tb,0,none⟩),.int .i64 (kind:Int),.pointer (some ⟨db,0,none⟩)]∧DuNew w w' db tb gb T each many (if many=1 then 0 else dpt)∧Mod [nb] w w':=by
 have hnl:=h.lt;have htl:=ht.ltT;have hgl:=ht.ltG;obtain⟨g,hg⟩:∃g,g=T.gs.length:=⟨_,rfl⟩;have HG:=qd (table_Groups tb gb T w ht);rw[←hg]at HG hk;have HC:=qd (choose_Groups kind g each many (by rw[hg];exact hok.pow) hpe hk w);unfold tabP at HG;unfold nodeP
 have hcase:many=1∧(if many=1 then-1 else(dpt:Int))= -1∧(if many=1 then 0 else dpt)=0∨many=2∧(if many=1 then-1 else(dpt:Int))=((if many=1 then 0 else dpt:Nat):Int)∧(if many=1 then 0 else dpt)≤15:=by
  rcases hk with⟨_,_,rfl⟩|⟨_,_,rfl⟩|⟨_,_,rfl⟩
  ·left;simp
  ·left;simp
  ·right;simp;omega
 have HDu:=qd (dual_New tb gb each many (if many=1 then 0 else dpt) (if many=1 then-1 else(dpt:Int)) T hpe hcase w ht)
 have hmm:many=1∨many=2:=by omega
 clear hcase;have HN:=qd (h);have Hmod:=qd (Mod.refl [nb] w);clear h ht hk hok hg hpe;rcases hmm with rfl|rfl
 ·simp only[if_true]at HDu⊢;unfold dualP at HDu;go_in;have nc:=HN.out.c5;go_wp2_with fail;refine(HG.out).mono ?_;rintro y w1 ⟨rfl,rfl⟩;go_wp2_with fail;refine(HC.out).mono ?_;rintro y w1 ⟨rfl,rfl⟩;go_wp2_with fail;refine(HDu.out).mono ?_;rintro y w1 ⟨db,rfl,hdu,hb⟩;have hbsz:=hb.size;clear nc;replace HN:=qB hb HN;have z101:=(hb).size;replace Hmod:=qT Hmod hb;clear hb HDu HG HC;have HDu:=qd hdu;clear hdu;have nc:=HN.out.c5;have nf:=HN.out.f5;go_upto_region 15 with fail;have q102:=HN.out.lt;refine qS2 HN.out ?_;rintro w2 ⟨hnew,hm⟩;simp only[pt]at hnew;have HDw:=qd (HDu.out.mod hm (by intro k hk;simp at hk;omega));have z103:=(hm).size;replace Hmod:=qU Hmod hm;replace HN:=qd hnew;clear hnew hm;go_wp2;go_ret;exact⟨rfl,db,HN.out,HDw.out,Hmod.out⟩
 ·simp only[if_false,show(2:Nat)≠1 from by decide]at HDu⊢;unfold dualP at HDu
  have hd5:¬(dpt:Int)≥5:=by omega
  go_in;have nc:=HN.out.c5;go_wp2_with fail;refine(HG.out).mono ?_;rintro y w1 ⟨rfl,rfl⟩;go_wp2_with fail;refine(HC.out).mono ?_;rintro y w1 ⟨rfl,rfl⟩;go_wp2_with fail;refine(HDu.out).mono ?_;rintro y w1 ⟨db,rfl,hdu,hb⟩;have hbsz:=hb.size;clear nc;replace HN:=qB hb HN;have z101:=(hb).size;replace Hmod:=qT Hmod hb;clear hb HDu HG HC;have HDu:=qd hdu;clear hdu;have nc:=HN.out.c5;have nf:=HN.out.f5;go_upto_region 15 with fail;have q102:=HN.out.lt;refine qS2 HN.out ?_;rintro w2 ⟨hnew,hm⟩;simp only[pt]at hnew;have HDw:=qd (HDu.out.mod hm (by intro k hk;simp at hk;omega));have z103:=(hm).size;replace Hmod:=qU Hmod hm;replace HN:=qd hnew;clear hnew hm;go_wp2;go_ret;exact⟨rfl,db,HN.out,HDw.out,Hmod.out⟩
theorem mem_footM_t {db rb fb eb vb ob og:Nat}{bbs:List Nat}{bs:List (Nat×Nat)}{b:Nat×Nat}(h:b∈bs):b.1∈footM db rb fb eb vb ob og bbs bs∧b.2∈footM db rb fb eb vb ob og bbs bs:=by
 have h1:b.1∈flatB bs:=mem_flatB.2 ⟨b,h,.inl rfl⟩;have h2:b.2∈flatB bs:=mem_flatB.2 ⟨b,h,.inr rfl⟩;unfold footM;simp only[List.mem_cons,List.mem_append];exact⟨.inr (.inr (.inr (.inr (.inr (.inr (.inr (.inr h1))))))),.inr (.inr (.inr (.inr (.inr (.inr (.inr (.inr h2)))))))⟩
theorem node_End_one (nb tb db rb cap og fb fcap eb vb vcap t0 g0:Nat)(bbs:List Nat)(pfx dpt job:Int)(T:TabM)(Ts:List TabM)(n depth next:Nat)(w:World)(h:Blk w nb 190 #[.int .i64 pfx,.int .i64 dpt,.pointer (some ⟨tb,0,none⟩),.int .i64 job,.pointer (some ⟨db,0,none⟩)])(hdu:DuM w db rb cap tb og fb fcap eb vb vcap bbs [(t0,g0)] T Ts n depth next)(hg64:T.gs.length≤64)(hnx:next=T.gs.length)(hnf:∀q∈footM db rb fb eb vb tb og bbs [(t0,g0)],q≠nb):
  Calls Tryz.prog 165 #[nodeP nb] w fun e w'=>e= .returned (.tuple #[.pointer none,.nilIface])∧Blk w' nb 190 #[.int .i64 pfx,.int .i64 dpt,.pointer (some ⟨t0,0,none⟩),.int .i64 0,.pointer none]∧TabsAt w' [(t0,g0)] Ts∧Mod [nb,db] w w':=by
 have hnd:=hdu.nd;have hdl:=hdu.blk.lt;have HLf:=qd (dual_Left_mov db rb cap tb og fb fcap eb vb vcap bbs [(t0,g0)] T Ts n depth next w hdu hg64 (by omega))
 have hz:T.gs.length-next=0:=by omega
 rw[hz]at HLf;have HDn:=qd (node_Done_dual nb tb db pfx dpt job (fun w w'=>w.drew=w') w h HLf.out);have HTk:=qd (dual_Take db rb cap tb og fb fcap eb vb vcap bbs [(t0,g0)] T Ts n depth next w.drew (hdu.mod (Mod.drewN [] w 1) (by simp)) hg64 hnx);unfold nodeP at HDn;unfold dualP at HTk;unfold nodeP;have hbn:∀b∈[(t0,g0)],b.1≠nb∧b.2≠nb:=fun b hb=>⟨hnf _ (mem_footM_t hb).1,hnf _ (mem_footM_t hb).2⟩;have hnl:=h.lt;have hdn:db≠nb:=hnf _ (by simp[footM]);clear hz HLf;have HBn:=qd hbn;have HN:=qd (h);have Hmod:=qd (Mod.refl [nb,db] w);clear h hdu hnd hnx hg64 hnf;go_in;go_wp2_with fail;refine(HDn.out).mono ?_;rintro y w1 ⟨rfl,rfl⟩;clear HDn;replace HN:=qd (HN.out.mod (Mod.drewN [] w 1) (by simp));replace Hmod:=qd (Hmod.out.then (Mod.drewN [nb,db] w 1));obtain⟨w1,hw1⟩:∃w1,w1=w.drew:=⟨_,rfl⟩;have hN1:=HN.out;have hm1:=Hmod.out;rw[show w.drewN 1=w.drew from rfl,←hw1]at hN1 hm1;rw[←hw1]at HTk⊢
 have hs1:w.heap.size=w1.heap.size:=by rw[hw1];rfl
 clear HN Hmod hw1;have HN:=qd hN1;have Hmod:=qd hm1;clear hN1 hm1;have nc:=HN.out.c5;go_wp2_with fail;refine(HTk.out).mono ?_;rintro x w2 ⟨rb2,c2,rfl,hrow,hrb2,hts,hm⟩;clear nc;replace HN:=qM hm HN;have z1:=(hm).size;replace Hmod:=qU Hmod hm;clear hm HTk;have r0:=hrow.at_ 0 t0 rfl;have hrl:=hrow.lt
 have hrn:rb2≠nb:=by omega
 have HTs:=qd (hts);have HW:=qd (hrow);clear hts hrow;have nc:=HN.out.c5;have nf:=HN.out.f5;go_upto_region 7 with fail;have q2:=qJ HN.out.lt HW.out.lt;refine qS3 HN.out ?_;rintro w3 ⟨hnew,hm⟩;simp only[pt]at hnew;clear r0;replace HTs:=qd (HTs.out.mod hm (fun b hb=>by have hh:=HBn.out b hb;simp<;>omega));replace HW:=qM hm HW;have z4:=(hm).size;replace Hmod:=qU Hmod hm;replace HN:=qd hnew;clear hnew hm;go_wp2;refine bodyPost_ret (v:= .tuple #[.pointer none,.nilIface]) (by simp[results,Tryz.results165,go_sem]) rfl ⟨rfl,HN.out,HTs.out,Hmod.out⟩
theorem node_End_two (nb tb db rb cap og fb fcap eb vb vcap t0 g0 t1 g1:Nat)(bbs:List Nat)(pfx dpt job:Int)(T:TabM)(Ts:List TabM)(n depth next:Nat)(w:World)(h:Blk w nb 190 #[.int .i64 pfx,.int .i64 dpt,.pointer (some ⟨tb,0,none⟩),.int .i64 job,.pointer (some ⟨db,0,none⟩)])(hdu:DuM w db rb cap tb og fb fcap eb vb vcap bbs [(t0,g0),(t1,g1)] T Ts n depth next)(hg64:T.gs.length≤64)(hnx:next=T.gs.length)(hnf:∀q∈footM db rb fb eb vb tb og bbs [(t0,g0),(t1,g1)],q≠nb)(hp:0≤pfx∧pfx≤1000)(hd:0≤dpt∧dpt≤1000):
  Calls Tryz.prog 165 #[nodeP nb] w fun e w'=>∃qb,e= .returned (.tuple #[nodeP qb,.nilIface])∧Blk w' nb 190 #[.int .i64 (2*pfx),.int .i64 (dpt+1),.pointer (some ⟨t0,0,none⟩),.int .i64 0,.pointer none]∧Blk w' qb 190 #[.int .i64 (2*pfx+1),.int .i64 (dpt+1),.pointer (some ⟨t1,0,none⟩),.int .i64 0,.pointer none]∧w.heap.size≤qb∧TabsAt w' [(t0,g0),(t1,g1)] Ts∧Mod [nb,db] w w':=by
 obtain⟨p0,p1⟩:=hp;obtain⟨d0,d1⟩:=hd
 have hw1:IntKind.i64.wrap (2*pfx)=2*pfx:=by rw[IntKind.wrap_i64];omega
 have hw2:IntKind.i64.wrap (dpt+1)=dpt+1:=by rw[IntKind.wrap_i64];omega
 have hw3:IntKind.i64.wrap (2*pfx+1)=2*pfx+1:=by rw[IntKind.wrap_i64];omega
 have hnd:=hdu.nd;have hdl:=hdu.blk.lt;have HLf:=qd (dual_Left_mov db rb cap tb og fb fcap eb vb vcap bbs [(t0,g0),(t1,g1)] T Ts n depth next w hdu hg64 (by omega))
 have hz:T.gs.length-next=0:=by omega
 rw[hz]at HLf;have HDn:=qd (node_Done_dual nb tb db pfx dpt job (fun w w'=>w.drew=w') w h HLf.out);have HTk:=qd (dual_Take db rb cap tb og fb fcap eb vb vcap bbs [(t0,g0),(t1,g1)] T Ts n depth next w.drew (hdu.mod (Mod.drewN [] w 1) (by simp)) hg64 hnx);unfold nodeP at HDn;unfold dualP at HTk;unfold nodeP;have hbn:∀b∈[(t0,g0),(t1,g1)],b.1≠nb∧b.2≠nb:=fun b hb=>⟨hnf _ (mem_footM_t hb).1,hnf _ (mem_footM_t hb).2⟩;have hnl:=h.lt;have hdn:db≠nb:=hnf _ (by simp[footM]);clear hz HLf;have HBn:=qd hbn;have HN:=qd (h);have Hmod:=qd (Mod.refl [nb,db] w);clear h hdu hnd hnx hg64 hnf;go_in;go_wp2_with fail;refine(HDn.out).mono ?_;rintro y w1 ⟨rfl,rfl⟩;clear HDn;replace HN:=qd (HN.out.mod (Mod.drewN [] w 1) (by simp));replace Hmod:=qd (Hmod.out.then (Mod.drewN [nb,db] w 1));obtain⟨w1,hw1⟩:∃w1,w1=w.drew:=⟨_,rfl⟩;have hN1:=HN.out;have hm1:=Hmod.out;rw[show w.drewN 1=w.drew from rfl,←hw1]at hN1 hm1;rw[←hw1]at HTk⊢
 have hs1:w.heap.size=w1.heap.size:=by rw[hw1];rfl
 clear HN Hmod hw1;have HN:=qd hN1;have Hmod:=qd hm1;clear hN1 hm1;have nc:=HN.out.c5;go_wp2_with fail;refine(HTk.out).mono ?_;rintro x w2 ⟨rb2,c2,rfl,hrow,hrb2,hts,hm⟩;clear nc;replace HN:=qM hm HN;have z1:=(hm).size;replace Hmod:=qU Hmod hm;clear hm HTk;have r0:=hrow.at_ 0 t0 rfl;have r1:=hrow.at_ 1 t1 rfl;have hrl:=hrow.lt
 have hrn:rb2≠nb:=by omega
 have HTs:=qd (hts);have HW:=qd (hrow);clear hts hrow;have nc:=HN.out.c5;have nf:=HN.out.f5;go_upto_region 7 with fail;have q2:=qJ HN.out.lt HW.out.lt;refine qS3 HN.out ?_;rintro w3 ⟨hnew,hm⟩;simp only[pt]at hnew;clear r0 r1;replace HTs:=qd (HTs.out.mod hm (fun b hb=>by have hh:=HBn.out b hb;simp<;>omega));replace HW:=qM hm HW;have z4:=(hm).size;replace Hmod:=qU Hmod hm;replace HN:=qd hnew;clear hnew hm;have r1:=HW.out.at_ 1 t1 rfl;go_upto_region 9 with fail;have nc:=HN.out.c5;have nf:=HN.out.f5;refine rT (fun(w':World)=>w'.cell? ⟨nb,0,none⟩=some (.int .i64 pfx)∧w'.cell? ⟨nb,1,none⟩=some (.int .i64 dpt)) [14,17] ?_;have hHeld:=(⟨nc.1,nc.2.1⟩:_∧_);refine vW 0 rfl ?_;refine vW 1 rfl ?_;refine vW 2 rfl ?_;refine vW 3 rfl ?_;refine vW 4 rfl ?_;refine vT 5 rfl ?_;refine vW 6 rfl ?_;refine vW 7 rfl ?_;refine vW 8 rfl ?_;refine vW 9 rfl ?_;refine vT 10 rfl ?_;refine vW 11 rfl ?_;refine vW 12 rfl ?_;refine vW 13 rfl ?_;refine nT 14 rfl fun K hK=> ?_;go_simp;refine kO hK ?_;clear hK K;refine vL 15 rfl ?_;refine vL 16 rfl ?_;refine nT 17 rfl fun K hK=> ?_;go_simp;refine kO hK ?_;clear hK K;refine doneT (by kernel_rfl) ?_ _;have q5:=qJ HN.out.lt HW.out.lt;have hnew:=((HN.out.set_ 0 (.int .i64 (2*pfx))).set_ 1 (.int .i64 (dpt+1))).drew;have hm:=((((Mod.refl [nb] w3).sl 0 (.int .i64 (2*pfx))).sl 1 (.int .i64 (dpt+1))).then (Mod.drewN [nb] _ 1));simp only[pt]at hnew;refine nameM hnew hm ?_;clear hnew hm;rintro w4 ⟨hnew,hm⟩
 replace HTs:=qd (HTs.out.mod hm (fun b hb=>by have hh:=HBn.out b hb;simp<;>omega));replace HW:=qM hm HW;have z7:=(hm).size;replace Hmod:=qU Hmod hm;replace HN:=qd hnew;clear hnew hm;have r1:=HW.out.at_ 1 t1 rfl;go_upto_region 10 with fail;have nc:=HN.out.c5;have q8:=qJ HN.out.lt (qJ HW.out.lt Hmod.out.size);refine rT (fun(w':World)=>w'.cell? ⟨nb,0,none⟩=some (.int .i64 (2*pfx))∧w'.cell? ⟨nb,1,none⟩=some (.int .i64 (dpt+1))∧w'.cell? ⟨rb2,1,none⟩=some (.pointer (some ⟨t1,0,none⟩))) [13] ?_;have hHeld:=(⟨nc.1,nc.2.1,r1⟩:_∧_∧_);refine vW 0 rfl ?_;refine vW 1 rfl ?_;refine vW 2 rfl ?_;refine vW 5 rfl ?_;refine vW 6 rfl ?_;refine vW 7 rfl ?_;refine vT 8 rfl ?_;refine vW 9 rfl ?_;refine vW 10 rfl ?_;refine vT 11 rfl ?_;refine nT 3 rfl fun K hK=> ?_;go_simp;refine kO hK ?_;clear hK K;refine vW 4 rfl ?_;refine vW 12 rfl ?_;refine nT 13 rfl fun K hK=> ?_;go_simp;refine kO hK ?_;clear hK K;refine vL 14 rfl ?_;refine vL 15 rfl ?_;refine doneT (by kernel_rfl) ?_ _;have q11:=qJ HN.out.lt (qJ HW.out.lt Hmod.out.size)
 refine nameW (F:=fun v=>Blk v w4.heap.size 190 #[.int .i64 (2*pfx+1),.int .i64 (dpt+1),.pointer (some ⟨t1,0,none⟩),.int .i64 0,.pointer none]∧Below w4.heap.size w4 v) ⟨(Blk.new w4 190 #[.int .i64 (2*pfx+1),.int .i64 (dpt+1),.pointer (some ⟨t1,0,none⟩),.int .i64 0,.pointer none]).drew,((Below.refl w4.heap.size w4).alloc (Nat.le_refl _) (.cells #[.int .i64 (2*pfx+1),.int .i64 (dpt+1),.pointer (some ⟨t1,0,none⟩),.int .i64 0,.pointer none] 190)).drew⟩ ?_;rintro w5 ⟨hnew,hb⟩;obtain⟨qb,hqb⟩:∃qb,qb=w4.heap.size:=⟨_,rfl⟩;rw[←hqb]at hnew⊢
 replace hqb:w4.heap.size≤qb:=by omega
 replace HN:=qB hb HN;replace HTs:=qd (HTs.out.mod (Mod.of_below hb []) (by simp));replace HW:=qB hb HW;have z14:=(hb).size;replace Hmod:=qT Hmod hb;have HQ:=qd (hnew);clear hnew hb;go_wp2;refine bodyPost_ret (v:= .tuple #[.pointer (some ⟨qb,0,none⟩),.nilIface]) (by simp[results,Tryz.results165,go_sem]) rfl ⟨qb,rfl,HN.out,HQ.out,by omega,HTs.out,Hmod.out⟩
section
variable {T : TabM} {add del l l' : List Ent} {e : Ent} {i s : Nat}
structure TG (T:TabM):Prop where
 inv:TInv T.gs
 ok:TOk T
def load (T:TabM):Nat:=(entsT T.gs).length+tombsT T.gs
theorem TG.loadI (h:TG T):T.live+T.tombs=(load T:Int):=by
 have h1:=h.ok.live;have h2:=h.ok.tombs;unfold load;omega
def Chg (del add l l':List Ent):Prop:=∃rest,l.Perm (del++rest)∧l'.Perm (add++rest)
theorem Chg.wrap (h:Chg del add l l')(A B:List Ent):Chg del add (A++(l++B)) (A++(l'++B)):=by
 obtain⟨r,h1,h2⟩:=h;refine⟨A++(r++B), ?_, ?_⟩
 ·exact((h1.append_right B).append_left A).trans (by rw[List.append_assoc,←List.append_assoc A,←List.append_assoc del];exact(List.perm_append_comm).append_right _)
 ·exact((h2.append_right B).append_left A).trans (by rw[List.append_assoc,←List.append_assoc A,←List.append_assoc add];exact(List.perm_append_comm).append_right _)
theorem Chg.perm {k k':List Ent}(h:Chg del add l l')(h1:k.Perm l)(h2:k'.Perm l'):Chg del add k k':=by
 obtain⟨r,h3,h4⟩:=h;exact⟨r,h1.trans h3,h2.trans h4⟩
theorem Chg.len (h:Chg del add l l'):l'.length+del.length=l.length+add.length:=by
 obtain⟨r,h3,h4⟩:=h;have h5:=h3.length_eq;have h6:=h4.length_eq;rw[List.length_append]at h5 h6;omega
theorem Chg.mem (h:Chg del add l l')(he:e∈l'):e∈add∨e∈l:=by
 obtain⟨r,h3,h4⟩:=h;rcases List.mem_append.1 (h4.mem_iff.1 he)with h5|h5
 ·exact .inl h5
 ·exact .inr (h3.mem_iff.2 (by simp[h5]))
structure TChg (del add:List Ent)(T T':TabM):Prop where
 tg:TG T'
 len:T'.gs.length=T.gs.length
 chg:Chg del add (entsT T.gs) (entsT T'.gs)
 load_:load T'≤load T+(add.length-del.length)
 at_:∀i s e,slotAt T'.gs i s= .full e→del=[]∨∃e0,slotAt T.gs i s= .full e0
theorem tg_free (h:TG T)(hk:∀x∈entsT T.gs,x.key≠e.key)(ho:load T<8*T.gs.length):
  (seek T.gs e.key e.hash).1=none∧∃i s,(seek T.gs e.key e.hash).2.1=some (i,s)∧FreeAt T.gs e.hash i s:=
 ⟨seek_none hk,seek_free h.ok.pow (open_of_room h.ok.wide ho) (seek_none hk)⟩
theorem not_full_ents {x:Slot}(h:x.isFull=false):x.ents=[]:=by cases x<;>first|rfl|cases h
theorem tg_place (h:TG T)(hf:FreeAt T.gs e.hash i s)(hk:∀x∈entsT T.gs,x.key≠e.key):TChg [] [e] T (placeM T i s e):=by
 have hf':=hf;obtain⟨hi,hs,hn,_⟩:=hf';have h1:=entsT_put hi hs (.full e);have h2:=tombsT_put hi hs (.full e);rw[not_full_ents hn,List.nil_append]at h1;refine⟨⟨inv_put h.inv hf hk,h.ok.place hi hs hn e⟩,putAt_length _ _ _ _,⟨entsT T.gs,by simp,h1⟩, ?_,fun j k x hx=> .inl rfl⟩
 ·have h3:=h1.length_eq;have h4:(Slot.full e).tomb1=0:=rfl;rw[List.length_append]at h3;show(entsT (putAt T.gs i s (.full e))).length+tombsT (putAt T.gs i s (.full e))≤(entsT T.gs).length+tombsT T.gs+(1-0);rw[h4]at h2;have h5:(Slot.full e).ents.length=1:=rfl;omega
theorem tg_erase (h:TG T)(he:slotAt T.gs i s= .full e):TChg [e] [] T (eraseM T i s)∧(∀j k x,slotAt (eraseM T i s).gs j k= .full x↔slotAt T.gs j k= .full x∧¬(j=i∧k=s)):=by
 obtain⟨hi,hs⟩:=slotAt_lt (gs:=T.gs) (i:=i) (s:=s) (by rw[he];exact fun h=>by cases h)
 obtain⟨x,hx,hxe,hxf⟩:∃x:Slot,(eraseM T i s).gs=putAt T.gs i s x∧(x.isEmpty=true→openG (T.gs.getD i [])=true)∧x.isFull=false:=by
  refine⟨_,rfl, ?_, ?_⟩<;>cases openG (T.gs.getD i [])<;>simp[Slot.isEmpty,Slot.isFull]
 have hxf':∀y,x≠ .full y:=fun y hy=>by rw[hy]at hxf;cases hxf
 have h1:=entsT_put hi hs x;have h2:=tombsT_put hi hs x;rw[not_full_ents hxf,List.nil_append,he]at h1
 have hat:∀j k y,slotAt (eraseM T i s).gs j k= .full y↔slotAt T.gs j k= .full y∧¬(j=i∧k=s):=fun j k y=>by
  rw[hx,slotAt_put _ _ _ _ _ _ hi hs];by_cases hij:i=j∧s=k
  ·rw[if_pos hij];exact⟨fun hh=>absurd hh (hxf' y),fun hh=>absurd ⟨hij.1.symm,hij.2.symm⟩ hh.2⟩
  ·rw[if_neg hij];exact⟨fun hh=>⟨hh,fun hh'=>hij ⟨hh'.1.symm,hh'.2.symm⟩⟩,fun hh=>hh.1⟩
 refine⟨⟨⟨by rw[hx];exact inv_erase h.inv hi hs hxe hxf',h.ok.erase he⟩,eraseM_length _ _ _,⟨entsT (eraseM T i s).gs,by rw[hx];exact h1.symm,by simp⟩, ?_,fun j k y hy=> .inr ⟨y,((hat j k y).1 hy).1⟩⟩,hat⟩;have h3:=h1.length_eq;rw[List.length_append]at h3;have h5:(Slot.full e).ents.length=1:=rfl
 have h6:x.tomb1≤1:=by unfold Slot.tomb1;split<;>omega
 unfold load;rw[hx];omega
theorem tg_replace (h:TG T){v:Nat}(he:slotAt T.gs i s= .full e):TChg [e] [{e with val:=v}] T (replaceM T i s v e):=by
 obtain⟨hi,hs⟩:=slotAt_lt (gs:=T.gs) (i:=i) (s:=s) (by rw[he];exact fun h=>by cases h);obtain⟨r1,r2,h1,h2⟩:=entsT_split hi hs;have h3:=tombsT_put hi hs (.full {e with val:=v});rw[he]at h1 h3;have h4:entsT (replaceM T i s v e).gs=r1++([{e with val:=v}]++r2):=h2 _;have h1':entsT T.gs=r1++([e]++r2):=h1;refine⟨⟨inv_replace h.inv he rfl rfl,h.ok.replace he⟩,putAt_length _ _ _ _,⟨r1++r2, ?_, ?_⟩, ?_,fun j k x hx=> ?_⟩
 ·rw[h1',←List.append_assoc,←List.append_assoc];exact List.perm_append_comm.append_right _
 ·rw[h4,←List.append_assoc,←List.append_assoc];exact List.perm_append_comm.append_right _
 ·unfold load
  have h5:tombsT (replaceM T i s v e).gs=tombsT T.gs:=by
   have:(Slot.full e).tomb1=0:=rfl;have h6:(Slot.full {e with val:=v}).tomb1=0:=rfl;show tombsT (putAt T.gs i s _)=_;omega
  rw[h4,h1',h5];simp
 ·have hx':slotAt (putAt T.gs i s (.full {e with val:=v})) j k= .full x:=hx;rw[slotAt_put _ _ _ _ _ _ hi hs]at hx';split at hx'
  ·next hij=>exact .inr ⟨e,by rw[←hij.1,←hij.2];exact he⟩
  ·exact .inr ⟨x,hx'⟩
theorem tg_seek (h:TG T)(he:e∈entsT T.gs):∃i s,(seek T.gs e.key e.hash).1=some (i,s)∧slotAt T.gs i s= .full e:=by
 obtain⟨i,s,hs⟩:=mem_entsT.1 he;exact⟨i,s,seek_found h.inv hs,hs⟩
theorem tg_bare {n:Nat}(h:Pw n):TG (prepT n n)∧entsT (prepT n n).gs=[]∧load (prepT n n)=0:=by
 have h1:=prep_ok h;have h2:(prepT n n).gs=bare n:=prepG_all n
 have h3:entsT (prepT n n).gs=[]:=by
  have:=h1.live;exact List.length_eq_zero_iff.1 (by simp[prepT]at this;simpa[prepT]using this.symm)
 have h4:=h1.tombs;refine⟨⟨by rw[h2];exact inv_bare h,h1⟩,h3, ?_⟩;unfold load;rw[h3];simp[prepT]at h4⊢;omega
theorem tg_take (h:TG T)(hi:i<T.gs.length):∀k,k≤8→TG (takeN T i k)∧(∀j s e,slotAt (takeN T i k).gs j s= .full e↔slotAt T.gs j s= .full e∧¬(j=i∧s<k))∧
  (entsT T.gs).Perm (entsG ((T.gs.getD i []).take k)++entsT (takeN T i k).gs)∧load (takeN T i k)≤load T
 |0,_=>⟨h,fun j s e=>by simp[takeN],by simp[entsG,takeN],Nat.le_refl _⟩
 |k+1,hk=>by
  obtain⟨h1,h2,h3,h4⟩:=tg_take h hi k (by omega);have hw:=h.ok.wide.at_ hi;have hg:(T.gs.getD i [])[k]?=some (slotAt T.gs i k):=slotAt_get (by omega)
  have ht:entsG ((T.gs.getD i []).take (k+1))=entsG ((T.gs.getD i []).take k)++(slotAt T.gs i k).ents:=by
   rw[List.take_add_one,hg];unfold entsG;simp
  show TG (eraseIf _ _ _)∧(∀j s e,slotAt (eraseIf _ _ _).gs j s= .full e↔_)∧_∧load (eraseIf _ _ _)≤_
  cases hx:slotAt T.gs i k with
  |full e=>
   have he:slotAt (takeN T i k).gs i k= .full e:=(h2 i k e).2 ⟨hx,by omega⟩;obtain⟨h5,h6⟩:=tg_erase h1 he
   have hE:eraseIf (takeN T i k) i k=eraseM (takeN T i k) i k:=by unfold eraseIf;rw[he];rfl
   rw[hE];refine⟨h5.tg,fun j s x=> ?_, ?_,Nat.le_trans h5.load_ (by simpa using h4)⟩
   ·rw[h6,h2];constructor
    ·rintro⟨⟨a,b⟩,c⟩;refine⟨a,fun hh=> ?_⟩;by_cases hs:s=k
     ·exact c ⟨hh.1,hs⟩
     ·exact b ⟨hh.1,by omega⟩
    ·rintro⟨a,b⟩;exact⟨⟨a,fun hh=>b ⟨hh.1,by omega⟩⟩,fun hh=>b ⟨hh.1,by omega⟩⟩
   ·rw[takeN,hE,ht,hx,List.append_assoc];obtain⟨r,h7,h8⟩:=h5.chg;exact h3.trans ((h7.trans ((h8.symm).append_left _)).append_left _)
  |empty=>
   have hE:eraseIf (takeN T i k) i k=takeN T i k:=by
    unfold eraseIf
    cases hy:slotAt (takeN T i k).gs i k with
    |full y=>have:=((h2 i k y).1 hy).1;rw[hx]at this;cases this
    |_=>rfl
   rw[hE];refine⟨h1,fun j s x=> ?_,by rw[takeN,hE,ht,hx];simpa[Slot.ents]using h3,h4⟩;rw[h2]
   exact⟨fun⟨a,b⟩=>⟨a,fun hh=>by
    by_cases hs:s=k
    ·rw[hh.1,hs,hx]at a;cases a
    ·exact b ⟨hh.1,by omega⟩⟩,fun⟨a,b⟩=>⟨a,fun hh=>b ⟨hh.1,by omega⟩⟩⟩
  |tomb=>
   have hE:eraseIf (takeN T i k) i k=takeN T i k:=by
    unfold eraseIf
    cases hy:slotAt (takeN T i k).gs i k with
    |full y=>have:=((h2 i k y).1 hy).1;rw[hx]at this;cases this
    |_=>rfl
   rw[hE];refine⟨h1,fun j s x=> ?_,by rw[takeN,hE,ht,hx];simpa[Slot.ents]using h3,h4⟩;rw[h2]
   exact⟨fun⟨a,b⟩=>⟨a,fun hh=>by
    by_cases hs:s=k
    ·rw[hh.1,hs,hx]at a;cases a
    ·exact b ⟨hh.1,by omega⟩⟩,fun⟨a,b⟩=>⟨a,fun hh=>b ⟨hh.1,by omega⟩⟩⟩
theorem tg_take8 (h:TG T)(hi:i<T.gs.length):TG (takeN T i 8)∧(∀j s e,slotAt (takeN T i 8).gs j s= .full e↔slotAt T.gs j s= .full e∧j≠i)∧
  (entsT T.gs).Perm (entsG (T.gs.getD i [])++entsT (takeN T i 8).gs):=by
 obtain⟨h1,h2,h3,h4⟩:=tg_take h hi 8 (Nat.le_refl _);have hw:=h.ok.wide.at_ hi;rw[List.take_of_length_le (by omega)]at h3;refine⟨h1,fun j s e=> ?_,h3⟩;rw[h2];constructor
 ·rintro⟨a,b⟩;refine⟨a,fun hj=>b ⟨hj, ?_⟩⟩;subst hj;have:=(slotAt_lt (gs:=T.gs) (i:=j) (s:=s) (by rw[a];exact fun h=>by cases h)).2;omega
 ·rintro⟨a,b⟩;exact⟨a,fun hh=>b hh.1⟩
end
section
variable {d j m n : Nat} {Ts : List TabM} {T : TabM}
def loads (Ts:List TabM):Nat:=(Ts.map load).sum
def entsTs (Ts:List TabM):List Ent:=Ts.flatMap fun T=>entsT T.gs
theorem list_at {α:Type}{l:List α}{x:α}(h:l[j]?=some x):l=l.take j++x::l.drop (j+1)∧∀y,l.set j y=l.take j++y::l.drop (j+1):=by
 obtain⟨hj,rfl⟩:=List.getElem?_eq_some_iff.1 h;refine⟨?_,fun y=>set_split hj y⟩;have:=set_split hj l[j]
 rwa [List.set_getElem_self]at this
theorem loads_set (h:Ts[j]?=some T)(T':TabM):loads (Ts.set j T')+load T=loads Ts+load T':=by
 obtain⟨h1,h2⟩:=list_at h
 have h3:loads Ts=loads (Ts.take j++T::Ts.drop (j+1)):=by rw[←h1]
 rw[h2 T',h3];unfold loads;simp only[List.map_append,List.map_cons,List.sum_append,List.sum_cons];omega
theorem load_le (h:Ts[j]?=some T):load T≤loads Ts:=by
 obtain⟨h1,h2⟩:=list_at h
 have h3:loads Ts=loads (Ts.take j++T::Ts.drop (j+1)):=by rw[←h1]
 rw[h3];unfold loads;simp only[List.map_append,List.map_cons,List.sum_append,List.sum_cons];omega
theorem entsTs_split (h:Ts[j]?=some T):∃A B,entsTs Ts=A++(entsT T.gs++B)∧∀T',entsTs (Ts.set j T')=A++(entsT T'.gs++B):=by
 obtain⟨h1,h2⟩:=list_at h;refine⟨entsTs (Ts.take j),entsTs (Ts.drop (j+1)), ?_,fun T'=> ?_⟩
 ·have h3:entsTs Ts=entsTs (Ts.take j++T::Ts.drop (j+1)):=by rw[←h1]
  rw[h3];unfold entsTs;simp
 ·rw[h2 T'];unfold entsTs;simp
theorem mem_entsTs {e:Ent}:e∈entsTs Ts↔∃(j:Nat) (T:TabM),Ts[j]?=some T∧e∈entsT T.gs:=by
 unfold entsTs;rw[List.mem_flatMap];constructor
 ·rintro⟨T,h1,h2⟩;obtain⟨j,hj⟩:=List.getElem?_of_mem h1;exact⟨j,T,hj,h2⟩
 ·rintro⟨j,T,hj,h2⟩;exact⟨T,List.mem_of_getElem? hj,h2⟩
structure FrOk (m n d:Nat)(Ts:List TabM):Prop where
 len:Ts.length=m
 tg:∀(j:Nat) (T:TabM),Ts[j]?=some T→TG T∧T.gs.length=n
 side:∀(j:Nat) (T:TabM) (e:Ent),Ts[j]?=some T→e∈entsT T.gs→sideOf m d e.hash=j
theorem side_lt {h:Nat}(hm:m=1∨m=2):sideOf m d h<m:=by
 unfold sideOf bitOf;rcases hm with rfl|rfl
 ·simp
 ·simp;omega
theorem FrOk.set_ (h:FrOk m n d Ts){T':TabM}{del add:List Ent}(hj:Ts[j]?=some T)(hc:TChg del add T T')(ha:∀e∈add,sideOf m d e.hash=j):FrOk m n d (Ts.set j T'):=by
 have hset:∀(i:Nat) (X:TabM),(Ts.set j T')[i]?=some X→(i=j∧X=T')∨(i≠j∧Ts[i]?=some X):=fun i X hX=>by
  rw[List.getElem?_set]at hX;by_cases hij:j=i
  ·rw[if_pos hij]at hX;split at hX
   ·cases hX;exact .inl ⟨hij.symm,rfl⟩
   ·cases hX
  ·rw[if_neg hij]at hX;exact .inr ⟨fun hh=>hij hh.symm,hX⟩
 refine⟨by rw[List.length_set];exact h.len,fun i X hX=> ?_,fun i X e hX he=> ?_⟩
 ·rcases hset i X hX with⟨rfl,rfl⟩|⟨_,h2⟩
  ·exact⟨hc.tg,hc.len.trans (h.tg _ _ hj).2⟩
  ·exact h.tg _ _ h2
 ·rcases hset i X hX with⟨rfl,rfl⟩|⟨_,h2⟩
  ·rcases hc.chg.mem he with h3|h3
   ·exact ha e h3
   ·exact h.side _ _ _ hj h3
  ·exact h.side _ _ _ h2 he
theorem frOk_bare (hn:Pw n):FrOk m n d (List.replicate m (prepT n n))∧entsTs (List.replicate m (prepT n n))=[]∧loads (List.replicate m (prepT n n))=0:=by
 obtain⟨h1,h2,h3⟩:=tg_bare hn
 have hm:∀(j:Nat) (T:TabM),(List.replicate m (prepT n n))[j]?=some T→T=prepT n n:=fun j T hT=>by
  rw[List.getElem?_replicate]at hT;split at hT
  ·cases hT;rfl
  ·cases hT
 refine⟨⟨by simp,fun j T hT=> ?_,fun j T e hT he=> ?_⟩, ?_, ?_⟩
 ·rw[hm j T hT];exact⟨h1,prepG_length (Nat.le_refl _)⟩
 ·rw[hm j T hT,h2]at he;cases he
 ·exact List.eq_nil_iff_forall_not_mem.2 fun e he=>by
   obtain⟨j,T,hT,he⟩:=mem_entsTs.1 he;rw[hm j T hT,h2]at he;cases he
 ·unfold loads;simp[h3]
theorem moves {B:Nat}(hm:m=1∨m=2)(hB:B≤7*n):∀(es:List Ent) (Ts:List TabM) (x:Mtr),FrOk m n d Ts→((es++entsTs Ts).map Ent.key).Nodup→(∀e∈es,e.hash<18446744073709551616)→loads Ts+es.length≤B→
  Fits m d Ts es∧FrOk m n d (moveL m d (x,Ts) es).2∧(entsTs (moveL m d (x,Ts) es).2).Perm (es++entsTs Ts)∧loads (moveL m d (x,Ts) es).2≤loads Ts+es.length∧∃c,(moveL m d (x,Ts) es).1=x.add cV c
 | [],Ts,x,h,_,_,_=>⟨trivial,h,by exact List.Perm.refl _,Nat.le_refl _,0,rfl⟩
 |e::es,Ts,x,h,hk,h64,hl=>by
  obtain⟨T,hT⟩:∃T,Ts[sideOf m d e.hash]?=some T:=⟨_,List.getElem?_eq_getElem (by rw[h.len];exact side_lt hm)⟩;obtain⟨hg,hn⟩:=h.tg _ _ hT
  have hgd:Ts.getD (sideOf m d e.hash) noT=T:=by rw[List.getD_eq_getElem?_getD,hT];rfl
  have hlT:=load_le hT;simp only[List.length_cons]at hl
  have hkT:∀y∈entsT T.gs,y.key≠e.key:=fun y hy he=>by
   rw[List.cons_append,List.map_cons,List.nodup_cons]at hk;exact hk.1 (by rw[←he];exact List.mem_map_of_mem (List.mem_append_right _ (mem_entsTs.2 ⟨_,_,hT,hy⟩)))
  obtain⟨hs1,i,s,hs2,hf⟩:=tg_free hg hkT (by omega);have hc:=tg_place hg hf hkT
  have hpn:putNew T e=placeM T i s e:=by unfold putNew;rw[hs2]
  have hld:=hg.loadI;have hcp:CanPut T e:=⟨hg.ok,h64 e (by simp),hs1,⟨i,s,hs2⟩,by omega⟩;have hFr:=h.set_ hT hc (fun y hy=>by simp at hy;rw[hy]);have hls:=loads_set hT (placeM T i s e);have hlp:=hc.load_;simp only[List.length_cons,List.length_nil]at hlp;obtain⟨A,B',hsp1,hsp2⟩:=entsTs_split hT
  have hpe:(entsTs (Ts.set (sideOf m d e.hash) (placeM T i s e))).Perm (e::entsTs Ts):=by
   obtain⟨r,h7,h8⟩:=hc.chg.wrap A B';rw[hsp2,hsp1];exact h8.trans (by simpa using h7.symm)
  have ih:=moves (B:=B) hm hB es (Ts.set (sideOf m d e.hash) (placeM T i s e)) (x.add cV (seek (Ts.getD (sideOf m d e.hash) noT).gs e.key e.hash).2.2) hFr
   (((hpe.append_left es).trans List.perm_middle).map Ent.key|>.nodup_iff.2 (by simpa using hk)) (fun y hy=>h64 y (by simp[hy])) (by omega)
  obtain⟨ih1,ih2,ih3,ih4,c,ih5⟩:=ih
  have hst:moveL m d (x,Ts) (e::es)=moveL m d (x.add cV (seek (Ts.getD (sideOf m d e.hash) noT).gs e.key e.hash).2.2,Ts.set (sideOf m d e.hash) (placeM T i s e)) es:=by
   unfold moveL;rw[List.foldl_cons];congr 1;unfold moveOne;simp only;rw[hgd,hpn]
  rw[hst];refine⟨⟨⟨T,hT,hcp⟩,by rw[hgd,hpn];exact ih1⟩,ih2,ih3.trans ((hpe.append_left es).trans List.perm_middle),by simp only[List.length_cons];omega,_,ih5.trans (Mtr.add_add _ _ _ _)⟩
theorem moveL_any (k d:Nat)(x y:Mtr):∀(es:List Ent) (Ts:List TabM),(moveL k d (x,Ts) es).2=(moveL k d (y,Ts) es).2
 | [],_=>rfl
 |e::es,Ts=>by
  unfold moveL;rw[List.foldl_cons,List.foldl_cons];exact moveL_any k d _ _ es _
end
end Go.Proofs.YthfgacnlojmmfaaGreatDoor
