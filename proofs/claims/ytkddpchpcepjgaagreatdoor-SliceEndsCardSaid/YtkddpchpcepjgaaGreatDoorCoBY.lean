/- A node's small functions by their contracts. -/
import Derived.Test.YtkddpchpcepjgaaGreatDoorCoBC
namespace Go.Proofs.YtkddpchpcepjgaaGreatDoor
set_option maxRecDepth 100000
set_option maxHeartbeats 8000000
open Go.RowKit cu Go
theorem jj:type_of% @List.mem_append_right:=@List.mem_append_right
theorem RH (nb tb:Nat)(pfx au job:Int)(dv:Value)(w:World)(h:aj w nb 177 #[.int .i64 pfx,.int .i64 au,pQ tb,.int .i64 job,dv]):
  Calls Tryz.prog 183 #[aK nb] w λe w'=>e= .returned (.tuple #[.int .i64 pfx,.int .i64 au])/\w.drew=w':=by
 obtain⟨c0,c1,c2,c3,c4⟩:=h.c5;clear h;unfold aK;go_in;go_upto_region 1 with fail;go_region;go_wp2;refine bodyPost_ret (v:= .tuple #[.int .i64 pfx,.int .i64 au]) (by simp[results,Tryz.results183,go_sem]) rfl ⟨rfl,rfl⟩
theorem Jw (nb tb gb:Nat)(pfx au job:Int)(T:aC)(w:World)(h:aj w nb 177 #[.int .i64 pfx,.int .i64 au,pQ tb,.int .i64 job,.pointer none])(ht:TabAt w tb gb T):
  Calls Tryz.prog 101 #[aK nb] w λe w'=>e= .returned (nI T.gs.length)/\w=w':=by
 have HC:=qd (nN tb gb T w ht);unfold bT at HC;obtain⟨c0,c1,c2,c3,c4⟩:=h.c5;clear h;unfold aK;go_in;go_wp2_with fail;refine(HC.o).mono ?_;rintro y w1 ⟨rfl,rfl⟩;go_wp2;go_ret;exact⟨rfl,rfl⟩
theorem yX (nb tb db:Nat)(pfx au job:Int)(v:Int)(Post:World->World->Prop)(w:World)(h:aj w nb 177 #[.int .i64 pfx,.int .i64 au,pQ tb,.int .i64 job,pQ db])(hc:Calls Tryz.prog 138 #[bQ db] w λe w'=>e= .returned (.int .i64 v)/\Post w w'):
  Calls Tryz.prog 101 #[aK nb] w λe w'=>e= .returned (.int .i64 v)/\Post w w':=by
 have HC:=qd hc;unfold bQ at HC;clear hc;obtain⟨c0,c1,c2,c3,c4⟩:=h.c5;clear h;unfold aK;go_in;go_wp2_with fail;refine(HC.o).mono ?_;rintro y w1 ⟨rfl,hp⟩;have HP:=qd hp;clear hp;go_wp2;go_ret;exact⟨rfl,HP.o⟩
theorem Br (nb tb db:Nat)(pfx au job:Int)(v:Int)(Post:World->World->Prop)(w:World)(h:aj w nb 177 #[.int .i64 pfx,.int .i64 au,pQ tb,.int .i64 job,pQ db])(hc:Calls Tryz.prog 240 #[bQ db] w λe w'=>e= .returned (.int .i64 v)/\Post w w'):
  Calls Tryz.prog 275 #[aK nb] w λe w'=>e= .returned (.int .i64 v)/\Post w w':=by
 have HC:=qd hc;unfold bQ at HC;clear hc;obtain⟨c0,c1,c2,c3,c4⟩:=h.c5;clear h;unfold aK;go_in;go_wp2_with fail;refine(HC.o).mono ?_;rintro y w1 ⟨rfl,hp⟩;have HP:=qd hp;clear hp;go_wp2;go_ret;exact⟨rfl,HP.o⟩
theorem NJ (nb tb:Nat)(pfx au job:Int)(w:World)(h:aj w nb 177 #[.int .i64 pfx,.int .i64 au,pQ tb,.int .i64 job,.pointer none]):
  Calls Tryz.prog 275 #[aK nb] w λe w'=>e= .returned (.int .i64 0)/\w=w':=by
 obtain⟨c0,c1,c2,c3,c4⟩:=h.c5;clear h;unfold aK;go_in;go_wp2;go_ret;exact⟨rfl,rfl⟩
theorem KF (nb tb db:Nat)(pfx au job:Int)(P:MP)(Post:World->World->Prop)(w:World)(h:aj w nb 177 #[.int .i64 pfx,.int .i64 au,pQ tb,.int .i64 job,pQ db])(hc:Calls Tryz.prog 277 #[bQ db,.pointer (some ⟨P.mb,P.mo,none⟩)] w λe w'=>e= .returned (.bool true)/\Post w w'):
  Calls Tryz.prog 276 #[aK nb,.pointer (some ⟨P.mb,P.mo,none⟩)] w λe w'=>e= .returned (.bool true)/\Post w w':=by
 have HC:=qd hc;unfold bQ at HC;clear hc;obtain⟨c0,c1,c2,c3,c4⟩:=h.c5;clear h;unfold aK;go_in;go_wp2_with fail;refine(HC.o).mono ?_;rintro y w1 ⟨rfl,hp⟩;have HP:=qd hp;clear hp;go_wp2;go_ret;exact⟨rfl,HP.o⟩
theorem Bt (nb tb db:Nat)(pfx au job:Int)(Post:World->World->Prop)(w:World)(h:aj w nb 177 #[.int .i64 pfx,.int .i64 au,pQ tb,.int .i64 job,pQ db])(hc:Calls Tryz.prog 240 #[bQ db] w λe w'=>e= .returned (.int .i64 0)/\Post w w'):
  Calls Tryz.prog 218 #[aK nb] w λe w'=>e= .returned (.bool true)/\Post w w':=by
 have HC:=qd hc;unfold bQ at HC;clear hc;obtain⟨c0,c1,c2,c3,c4⟩:=h.c5;clear h;unfold aK;go_in;go_wp2_with fail;refine(HC.o).mono ?_;rintro y w1 ⟨rfl,hp⟩;have HP:=qd hp;clear hp;go_wp2;go_ret;exact⟨rfl,HP.o⟩
theorem zQ (nb tb db:Nat)(pfx au job gl:Int)(w:World)(h:aj w nb 177 #[.int .i64 pfx,.int .i64 au,pQ tb,.int .i64 job,pQ db]):
  Calls Tryz.prog 125 #[aK nb,.int .i64 gl] w λe w'=>e= .returned (.tuple #[.int .i64 0,.bool false])/\w=w':=by
 obtain⟨c0,c1,c2,c3,c4⟩:=h.c5;clear h;unfold aK;go_in;go_wp2;refine bodyPost_ret (v:= .tuple #[.int .i64 0,.bool false]) (by simp[results,Tryz.results125,go_sem]) rfl ⟨rfl,rfl⟩
theorem KG (nb tb gb lo gl:Nat)(pfx job:Int)(T:aC)(w:World)(h:aj w nb 177 #[.int .i64 pfx,nI lo,pQ tb,.int .i64 job,.pointer none])(ht:TabAt w tb gb T)(hok:ny T):
  Calls Tryz.prog 125 #[aK nb,nI gl] w λe w'=>e= .returned (.tuple #[.int .i64 ((jR T.live T.dh T.gs.length lo gl:Nat):Int),.bool (fI T.live T.dh T.gs.length lo gl)])/\Below w.heap.size w w':=by
 have tN:=hok.pow.le;have hsm:=hok.small;have L8:=qd hok.pow;have HSm:=qd hsm;obtain⟨n,hn⟩:∃n,n=T.gs.length:=⟨_,rfl⟩;have HL:=qd (λV hV=>WS tb gb T V hV);have HTm:=qd (λV hV=>RA tb gb T V hV);have HG:=qd (λV hV=>nN tb gb T V hV);have HWh:=qd (λV:World=>Pp T.live T.dh T.gs.length lo gl hok.pow ⟨hsm.l0,hsm.l1⟩ ⟨hsm.t0,hsm.t1⟩ V);have uT:=qd (λV:World=>ND T.live T.dh T.gs.length lo gl hok.pow ⟨hsm.l0,hsm.l1⟩ ⟨hsm.t0,hsm.t1⟩ V);unfold bT at HL HTm HG;clear hok hsm;have HN:=qd (h);have HT:=qd (ht);have ah:=qd (Mod.refl [] w);clear h ht;unfold aK;go_in;have nc:=HN.o.c5;go_upto_region 3 with fail;refine rT (λ(w':World)=>w'.cell? ⟨nb,2,none⟩=some (pQ tb)) [] ?_;have hHeld:=nc.2.2.1;refine vW 0 rfl ?_;refine vW 1 rfl ?_;refine vW 2 rfl ?_;refine vT 3 rfl ?_;refine vW 5 rfl ?_;refine vW 6 rfl ?_;refine vW 7 rfl ?_;refine vT 8 rfl ?_;refine vW 10 rfl ?_;refine vW 11 rfl ?_;refine vW 12 rfl ?_;refine vT 13 rfl ?_;refine nT 4 rfl λK hK=> ?_;go_simp;refine(HL.o _ (HT.o.below (Below.refl _ _).drew)).mono ?_;rintro y w2 ⟨rfl,rfl⟩;go_wp2_with fail;have hHeld:=nc.2.2.1;refine kO hK ?_;clear hK K;refine nT 9 rfl λK hK=> ?_;go_simp;refine(HTm.o _ (HT.o.below (Below.refl _ _).drew)).mono ?_;rintro y w2 ⟨rfl,rfl⟩;go_wp2_with fail;have hHeld:=nc.2.2.1;refine kO hK ?_;clear hK K;refine nT 14 rfl λK hK=> ?_;go_simp;refine(HG.o _ (HT.o.below (Below.refl _ _).drew)).mono ?_;rintro y w2 ⟨rfl,rfl⟩;go_wp2_with fail;have hHeld:=nc.2.2.1;refine kO hK ?_;clear hK K
 refine vW 15 rfl ?_;refine vW 16 rfl ?_;refine vW 17 rfl ?_;refine aV (by kernel_rfl) ?_ _;refine aY (F:=λv=>Mod [] w v) (Mod.drewN [] w 1) ?_;rintro w1 hm;clear nc;replace HN:=qM hm HN;replace HT:=qM hm HT;have z1:=(hm).size;replace ah:=qU ah hm;clear hm;go_upto_region 4 with fail;have nc:=HN.o.c5;refine rT (λ(w':World)=>w'.cell? ⟨nb,1,none⟩=some (nI lo)) [] ?_;have hHeld:=nc.2.1;refine vW 0 rfl ?_;refine vW 1 rfl ?_;refine vW 2 rfl ?_;refine vW 3 rfl ?_;refine vW 4 rfl ?_;refine vW 5 rfl ?_;refine vT 6 rfl ?_;refine vW 7 rfl ?_;refine vW 9 rfl ?_;refine vW 10 rfl ?_;refine vW 11 rfl ?_;refine vW 12 rfl ?_;refine vW 13 rfl ?_;refine vW 14 rfl ?_;refine vT 15 rfl ?_;refine vW 16 rfl ?_;refine nT 8 rfl λK hK=> ?_;go_simp;refine(HWh.o _).mono ?_;rintro y w2 ⟨rfl,rfl⟩;go_wp2_with fail;have hHeld:=nc.2.1;refine kO hK ?_;clear hK K;refine nT 17 rfl λK hK=> ?_;go_simp;refine(uT.o _).mono ?_;rintro y w2 ⟨rfl,rfl⟩;go_wp2_with fail;have hHeld:=nc.2.1;refine kO hK ?_;clear hK K;refine vW 18 rfl ?_;refine vW 19 rfl ?_;refine aV (by kernel_rfl) ?_ _;have HFin:=qd (show Below w.heap.size w w1.drew from(ah.o.yG).trans ((Below.refl _ _).drew.mono ah.o.size));go_wp2;refine bodyPost_ret (v:= .tuple #[.int .i64 ((jR T.live T.dh T.gs.length lo gl:Nat):Int),.bool (fI T.live T.dh T.gs.length lo gl)]) (by simp[results,Tryz.results125,go_sem]) rfl ⟨rfl,HFin.o⟩
theorem Jv.mod {w w1 w2:World}{db ob og:Nat}{T:aC}{n m depth:Nat}{S:List Nat}(h:Jv w w1 db ob og T n m depth)(hm:Mod S w1 w2)(hS:∀k∈S,k<w.heap.size/\k≠ob/\k≠og):Jv w w2 db ob og T n m depth:=by
 obtain⟨rb,cap,bl,h1,h2,h3,h4,h5⟩:=h;refine⟨rb,cap,bl,h1,h2,h3,h4,h5.mod hm λq hq hk=> ?_⟩;have hh:=hS q hk;unfold bL at hq;simp only[zt]at hq;rcases hq with e|e|e|e|e
 ·omega
 ·omega
 ·exact hh.2.1 e
 ·exact hh.2.2 e
 ·have:=h3 q e;omega
theorem aaK (w:World):
  Calls Tryz.prog 61 #[.int .i64 0,.int .i64 0] w λe w'=>∃nb tb gb,e= .returned (.tuple #[aK nb,.nilIface])/\aj w' nb 177 #[.int .i64 0,.int .i64 0,pQ tb,.int .i64 0,.pointer none]/\TabAt w' tb gb (eB 1 1)/\(w.heap.size<=nb/\w.heap.size<=tb/\w.heap.size<=gb/\nb≠tb/\nb≠gb)/\Below w.heap.size w w':=by
 have HL:=qd (DI 0 0 (by omega) (by omega) w);have HN:=qd (W9 1 (.inl rfl) w);unfold bT at HN;unfold aK;go_in;go_wp2_with fail;refine(HL.o).mono ?_;rintro y w1 ⟨rfl,rfl⟩;go_wp2_with fail;refine(HN.o).mono ?_;rintro y w1 ⟨tb,gb,htb,hgb,rfl,hT,hb⟩;have HT:=qd hT;have Hb:=qd hb;clear hT hb;go_wp2;refine bodyPost_ret (v:= .tuple #[pQ w1.heap.size,.nilIface]) (by simp[results,Tryz.results61,go_sem]) rfl ?_;have hbs:=Hb.o.size;exact⟨w1.heap.size,tb,gb,rfl,aj.new w1 _ _,HT.o.below ((Below.refl _ _).alloc (zb _) _),by have:=HT.o.aS;have:=HT.o.aT;omega,Hb.o.alloc hbs _⟩
theorem U2 (nb tb gb kind each many au:Nat)(pfx job:Int)(T:aC)(hd:au<5\/many=1/\au<=5)(w:World)(h:aj w nb 177 #[.int .i64 pfx,nI au,pQ tb,.int .i64 job,.pointer none])(ht:TabAt w tb gb T)(hok:ny T)(hpe:Pw each)(hk:kind=1/\each=T.gs.length/\many=1\/kind=2/\each=2*T.gs.length/\many=1\/kind=3/\each=T.gs.length/\many=2)(hnt:nb≠tb)(hng:nb≠gb):
  Calls Tryz.prog 127 #[aK nb,nI kind] w λe w'=>e= .returned .nilIface/\∃db,aj w' nb 177 #[.int .i64 pfx,nI au,pQ tb,nI kind,pQ db]/\Jv w w' db tb gb T each many (if many=1 then 0 else au)/\Mod [nb] w w':=by
 have hnl:=h.lt;have htl:=ht.aS;have hgl:=ht.aT;obtain⟨g,hg⟩:∃g,g=T.gs.length:=⟨_,rfl⟩;have HG:=qd (nN tb gb T w ht);rw[<-hg]at HG hk;have HC:=qd (NG kind g each many (by rw[hg];exact hok.pow) hpe hk w);unfold bT at HG;unfold aK
 have hcase:many=1/\(if many=1 then-1 else(au:Int))= -1/\(if many=1 then 0 else au)=0\/many=2/\(if many=1 then-1 else(au:Int))=((if many=1 then 0 else au:Nat):Int)/\(if many=1 then 0 else au)<=15:=by
  rcases hk with⟨_,_,rfl⟩|⟨_,_,rfl⟩|⟨_,_,rfl⟩
  ·left;simp
  ·left;simp
  ·right;simp;omega
 have Gi:=qd (aaJ tb gb each many (if many=1 then 0 else au) (if many=1 then-1 else(au:Int)) T hpe hcase w ht)
 have hmm:many=1\/many=2:=by omega
 clear hcase;have HN:=qd (h);have ah:=qd (Mod.refl [nb] w);clear h ht hk hok hg hpe;rcases hmm with rfl|rfl
 focus
  simp only[if_true]at Gi|-;unfold bQ at Gi
 rotate_left
 focus
  simp only[xx,show(2:Nat)≠1 from by decide]at Gi|-;unfold bQ at Gi
  have hd5:¬(au:Int)>=5:=by omega
 all_goals
  go_in;have nc:=HN.o.c5;go_wp2_with fail;refine(HG.o).mono ?_;rintro y w1 ⟨rfl,rfl⟩;go_wp2_with fail;refine(HC.o).mono ?_;rintro y w1 ⟨rfl,rfl⟩;go_wp2_with fail;refine(Gi.o).mono ?_;rintro y w1 ⟨db,rfl,qX,hb⟩;have aea:=hb.size;clear nc;replace HN:=qB hb HN;have agk:=(hb).size;replace ah:=qT ah hb;clear hb Gi HG HC;have Gi:=qd qX;clear qX;have nc:=HN.o.c5;have nf:=HN.o.f5;go_upto_region 15 with fail;have ah8:=HN.o.lt;refine qS2 HN.o ?_;rintro w2 ⟨hnew,hm⟩;simp only[pt]at hnew;have HDw:=qd (Gi.o.mod hm (by intro k hk;simp at hk;omega));have ah9:=(hm).size;replace ah:=qU ah hm;replace HN:=qd hnew;clear hnew hm;go_wp2;go_ret;exact⟨rfl,db,HN.o,HDw.o,ah.o⟩
theorem iU {db rb fb eb vb ob og:Nat}{bC:List Nat}{bs:List (Nat×Nat)}{b:Nat×Nat}(h:b∈bs):b.1∈aW db rb fb eb vb ob og bC bs/\b.2∈aW db rb fb eb vb ob og bC bs:=by
 have h1:b.1∈gT bs:=dV.2 ⟨b,h,.inl rfl⟩;have h2:b.2∈gT bs:=dV.2 ⟨b,h,.inr rfl⟩;unfold aW;simp only[zt,Zs];exact⟨.inr (.inr (.inr (.inr (.inr (.inr (.inr (.inr h1))))))),.inr (.inr (.inr (.inr (.inr (.inr (.inr (.inr h2)))))))⟩
theorem Pt (nb tb db rb cap og fb cB eb vb dw t0 g0:Nat)(bC:List Nat)(pfx au job:Int)(T:aC)(Ts:List aC)(n depth next:Nat)(w:World)(h:aj w nb 177 #[.int .i64 pfx,.int .i64 au,pQ tb,.int .i64 job,pQ db])(qX:pY w db rb cap tb og fb cB eb vb dw bC [(t0,g0)] T Ts n depth next)(tN:T.gs.length<=64)(hnx:next=T.gs.length)(hnf:∀q∈aW db rb fb eb vb tb og bC [(t0,g0)],q≠nb):
  Calls Tryz.prog 182 #[aK nb] w λe w'=>e= .returned (.tuple #[.pointer none,.nilIface])/\aj w' nb 177 #[.int .i64 pfx,.int .i64 au,pQ t0,.int .i64 0,.pointer none]/\iR w' [(t0,g0)] Ts/\Mod [nb,db] w w':=by
 have hnd:=qX.nd;have hdl:=qX.blk.lt;have jQ:=qd (rD db rb cap tb og fb cB eb vb dw bC [(t0,g0)] T Ts n depth next w qX tN (by omega))
 have hz:T.gs.length-next=0:=by omega
 rw[hz]at jQ;have HDn:=qd (Bt nb tb db pfx au job (λw w'=>w.drew=w') w h jQ.o);have wF:=qd (Ma db rb cap tb og fb cB eb vb dw bC [(t0,g0)] T Ts n depth next w.drew (qX.mod (Mod.drewN [] w 1) (by simp)) tN hnx);unfold aK at HDn;unfold bQ at wF;unfold aK;have hbn:∀b∈[(t0,g0)],b.1≠nb/\b.2≠nb:=λb hb=>⟨hnf _ (iU hb).1,hnf _ (iU hb).2⟩;have hnl:=h.lt;have hdn:db≠nb:=hnf _ (by simp[aW]);clear hz jQ;have Pn:=qd hbn;have HN:=qd (h);have ah:=qd (Mod.refl [nb,db] w);clear h qX hnd hnx tN hnf;go_in;go_wp2_with fail;refine(HDn.o).mono ?_;rintro y w1 ⟨rfl,rfl⟩;clear HDn;replace HN:=qd (HN.o.mod (Mod.drewN [] w 1) (by simp));replace ah:=qd (ah.o.then (Mod.drewN [nb,db] w 1));obtain⟨w1,hw1⟩:∃w1,w1=w.drew:=⟨_,rfl⟩;have hN1:=HN.o;have hm1:=ah.o;rw[show w.drewN 1=w.drew from rfl,<-hw1]at hN1 hm1;rw[<-hw1]at wF|-
 have hs1:w.heap.size=w1.heap.size:=by rw[hw1];rfl
 clear HN ah hw1;have HN:=qd hN1;have ah:=qd hm1;clear hN1 hm1;have nc:=HN.o.c5;go_wp2_with fail;refine(wF.o).mono ?_;rintro x w2 ⟨rb2,c2,rfl,hrow,agl,hts,hm⟩;clear nc;replace HN:=qM hm HN;have z1:=(hm).size;replace ah:=qU ah hm;clear hm wF;have r0:=hrow.at_ 0 t0 rfl;have hrl:=hrow.lt
 have hrn:rb2≠nb:=by omega
 have dR:=qd (hts);have HW:=qd (hrow);clear hts hrow;have nc:=HN.o.c5;have nf:=HN.o.f5;go_upto_region 7 with fail;have q2:=qJ HN.o.lt HW.o.lt;refine Li HN.o ?_;rintro w3 ⟨hnew,hm⟩;simp only[pt]at hnew;clear r0;replace dR:=qd (dR.o.mod hm (λb hb=>by have hh:=Pn.o b hb;simp<;>omega));replace HW:=qM hm HW;have z4:=(hm).size;replace ah:=qU ah hm;replace HN:=qd hnew;clear hnew hm;go_wp2;refine bodyPost_ret (v:= .tuple #[.pointer none,.nilIface]) (by simp[results,Tryz.results182,go_sem]) rfl ⟨rfl,HN.o,dR.o,ah.o⟩
theorem Pv (nb tb db rb cap og fb cB eb vb dw t0 g0 t1 g1:Nat)(bC:List Nat)(pfx au job:Int)(T:aC)(Ts:List aC)(n depth next:Nat)(w:World)(h:aj w nb 177 #[.int .i64 pfx,.int .i64 au,pQ tb,.int .i64 job,pQ db])(qX:pY w db rb cap tb og fb cB eb vb dw bC [(t0,g0),(t1,g1)] T Ts n depth next)(tN:T.gs.length<=64)(hnx:next=T.gs.length)(hnf:∀q∈aW db rb fb eb vb tb og bC [(t0,g0),(t1,g1)],q≠nb)(hp:0<=pfx/\pfx<=1000)(hd:0<=au/\au<=1000):
  Calls Tryz.prog 182 #[aK nb] w λe w'=>∃qb,e= .returned (.tuple #[aK qb,.nilIface])/\aj w' nb 177 #[.int .i64 (2*pfx),.int .i64 (au+1),pQ t0,.int .i64 0,.pointer none]/\aj w' qb 177 #[.int .i64 (2*pfx+1),.int .i64 (au+1),pQ t1,.int .i64 0,.pointer none]/\w.heap.size<=qb/\iR w' [(t0,g0),(t1,g1)] Ts/\Mod [nb,db] w w':=by
 obtain⟨p0,p1⟩:=hp;obtain⟨d0,d1⟩:=hd
 have hw1:IntKind.i64.wrap (2*pfx)=2*pfx:=by rw[ZZ];omega
 have hw2:IntKind.i64.wrap (au+1)=au+1:=by rw[ZZ];omega
 have hw3:IntKind.i64.wrap (2*pfx+1)=2*pfx+1:=by rw[ZZ];omega
 have hnd:=qX.nd;have hdl:=qX.blk.lt;have jQ:=qd (rD db rb cap tb og fb cB eb vb dw bC [(t0,g0),(t1,g1)] T Ts n depth next w qX tN (by omega))
 have hz:T.gs.length-next=0:=by omega
 rw[hz]at jQ;have HDn:=qd (Bt nb tb db pfx au job (λw w'=>w.drew=w') w h jQ.o);have wF:=qd (Ma db rb cap tb og fb cB eb vb dw bC [(t0,g0),(t1,g1)] T Ts n depth next w.drew (qX.mod (Mod.drewN [] w 1) (by simp)) tN hnx);unfold aK at HDn;unfold bQ at wF;unfold aK;have hbn:∀b∈[(t0,g0),(t1,g1)],b.1≠nb/\b.2≠nb:=λb hb=>⟨hnf _ (iU hb).1,hnf _ (iU hb).2⟩;have hnl:=h.lt;have hdn:db≠nb:=hnf _ (by simp[aW]);clear hz jQ;have Pn:=qd hbn;have HN:=qd (h);have ah:=qd (Mod.refl [nb,db] w);clear h qX hnd hnx tN hnf;go_in;go_wp2_with fail;refine(HDn.o).mono ?_;rintro y w1 ⟨rfl,rfl⟩;clear HDn;replace HN:=qd (HN.o.mod (Mod.drewN [] w 1) (by simp));replace ah:=qd (ah.o.then (Mod.drewN [nb,db] w 1));obtain⟨w1,hw1⟩:∃w1,w1=w.drew:=⟨_,rfl⟩;have hN1:=HN.o;have hm1:=ah.o;rw[show w.drewN 1=w.drew from rfl,<-hw1]at hN1 hm1;rw[<-hw1]at wF|-
 have hs1:w.heap.size=w1.heap.size:=by rw[hw1];rfl
 clear HN ah hw1;have HN:=qd hN1;have ah:=qd hm1;clear hN1 hm1;have nc:=HN.o.c5;go_wp2_with fail;refine(wF.o).mono ?_;rintro x w2 ⟨rb2,c2,rfl,hrow,agl,hts,hm⟩;clear nc;replace HN:=qM hm HN;have z1:=(hm).size;replace ah:=qU ah hm;clear hm wF;have r0:=hrow.at_ 0 t0 rfl;have r1:=hrow.at_ 1 t1 rfl;have hrl:=hrow.lt
 have hrn:rb2≠nb:=by omega
 have dR:=qd (hts);have HW:=qd (hrow);clear hts hrow;have nc:=HN.o.c5;have nf:=HN.o.f5;go_upto_region 7 with fail;have q2:=qJ HN.o.lt HW.o.lt;refine Li HN.o ?_;rintro w3 ⟨hnew,hm⟩;simp only[pt]at hnew;clear r0 r1;replace dR:=qd (dR.o.mod hm (λb hb=>by have hh:=Pn.o b hb;simp<;>omega));replace HW:=qM hm HW;have z4:=(hm).size;replace ah:=qU ah hm;replace HN:=qd hnew;clear hnew hm;have r1:=HW.o.at_ 1 t1 rfl;go_upto_region 9 with fail;have nc:=HN.o.c5;have nf:=HN.o.f5;refine rT (λ(w':World)=>w'.cell? ⟨nb,0,none⟩=some (.int .i64 pfx)/\w'.cell? ⟨nb,1,none⟩=some (.int .i64 au)) [14,17] ?_;have hHeld:=(⟨nc.1,nc.2.1⟩:_/\_);refine vW 0 rfl ?_;refine vW 1 rfl ?_;refine vW 2 rfl ?_;refine vW 3 rfl ?_;refine vW 4 rfl ?_;refine vT 5 rfl ?_;refine vW 6 rfl ?_;refine vW 7 rfl ?_;refine vW 8 rfl ?_;refine vW 9 rfl ?_;refine vT 10 rfl ?_;refine vW 11 rfl ?_;refine vW 12 rfl ?_;refine vW 13 rfl ?_;refine nT 14 rfl λK hK=> ?_;go_simp;refine kO hK ?_;clear hK K;refine vL 15 rfl ?_;refine vL 16 rfl ?_;refine nT 17 rfl λK hK=> ?_;go_simp;refine kO hK ?_;clear hK K;refine aV (by kernel_rfl) ?_ _;have q5:=qJ HN.o.lt HW.o.lt;have hnew:=((HN.o.ak 0 (.int .i64 (2*pfx))).ak 1 (.int .i64 (au+1))).drew;have hm:=((((Mod.refl [nb] w3).sl 0 (.int .i64 (2*pfx))).sl 1 (.int .i64 (au+1))).then (Mod.drewN [nb] _ 1));simp only[pt]at hnew;refine ab7 hnew hm ?_;clear hnew hm;rintro w4 ⟨hnew,hm⟩;replace dR:=qd (dR.o.mod hm (λb hb=>by have hh:=Pn.o b hb;simp<;>omega))
 replace HW:=qM hm HW;have z7:=(hm).size;replace ah:=qU ah hm;replace HN:=qd hnew;clear hnew hm;have r1:=HW.o.at_ 1 t1 rfl;go_upto_region 10 with fail;have nc:=HN.o.c5;have q8:=qJ HN.o.lt (qJ HW.o.lt ah.o.size);refine rT (λ(w':World)=>w'.cell? ⟨nb,0,none⟩=some (.int .i64 (2*pfx))/\w'.cell? ⟨nb,1,none⟩=some (.int .i64 (au+1))/\w'.cell? ⟨rb2,1,none⟩=some (pQ t1)) [13] ?_;have hHeld:=(⟨nc.1,nc.2.1,r1⟩:_/\_/\_);refine vW 0 rfl ?_;refine vW 1 rfl ?_;refine vW 2 rfl ?_;refine vW 5 rfl ?_;refine vW 6 rfl ?_;refine vW 7 rfl ?_;refine vT 8 rfl ?_;refine vW 9 rfl ?_;refine vW 10 rfl ?_;refine vT 11 rfl ?_;refine nT 3 rfl λK hK=> ?_;go_simp;refine kO hK ?_;clear hK K;refine vW 4 rfl ?_;refine vW 12 rfl ?_;refine nT 13 rfl λK hK=> ?_;go_simp;refine kO hK ?_;clear hK K;refine vL 14 rfl ?_;refine vL 15 rfl ?_;refine aV (by kernel_rfl) ?_ _;have q11:=qJ HN.o.lt (qJ HW.o.lt ah.o.size);refine aY (F:=λv=>aj v w4.heap.size 177 #[.int .i64 (2*pfx+1),.int .i64 (au+1),pQ t1,.int .i64 0,.pointer none]/\Below w4.heap.size w4 v) ⟨(aj.new w4 177 #[.int .i64 (2*pfx+1),.int .i64 (au+1),pQ t1,.int .i64 0,.pointer none]).drew,((Below.refl w4.heap.size w4).alloc (zb _) (.cells #[.int .i64 (2*pfx+1),.int .i64 (au+1),pQ t1,.int .i64 0,.pointer none] 177)).drew⟩ ?_;rintro w5 ⟨hnew,hb⟩;obtain⟨qb,Bo⟩:∃qb,qb=w4.heap.size:=⟨_,rfl⟩;rw[<-Bo]at hnew|-
 replace Bo:w4.heap.size<=qb:=by omega
 replace HN:=qB hb HN;replace dR:=qd (dR.o.mod (Mod.of_below hb []) (by simp));replace HW:=qB hb HW;have z14:=(hb).size;replace ah:=qT ah hb;have HQ:=qd (hnew);clear hnew hb;go_wp2;refine bodyPost_ret (v:= .tuple #[pQ qb,.nilIface]) (by simp[results,Tryz.results182,go_sem]) rfl ⟨qb,rfl,HN.o,HQ.o,by omega,dR.o,ah.o⟩
section
variable {T : aC} {add del l l' : List ay} {e : ay} {i s : Nat}
structure TG (T:aC):Prop where
 inv:Ah T.gs
 ok:ny T
def load (T:aC):Nat:=(aM T.gs).length+fH T.gs
theorem TG.U3 (h:TG T):T.live+T.dh=(load T:Int):=by
 have h1:=h.ok.live;have h2:=h.ok.dh;unfold load;omega
def uU (del add l l':List ay):Prop:=∃rest,l.Perm (del++rest)/\l'.Perm (add++rest)
theorem uU.wrap (h:uU del add l l')(A B:List ay):uU del add (A++(l++B)) (A++(l'++B)):=by
 obtain⟨r,h1,h2⟩:=h;refine⟨A++(r++B), ?_, ?_⟩
 ·exact((h1.append_right B).append_left A).trans (by rw[qe,<-qe A,<-qe del];exact(YY).append_right _)
 ·exact((h2.append_right B).append_left A).trans (by rw[qe,<-qe A,<-qe add];exact(YY).append_right _)
theorem uU.perm {k k':List ay}(h:uU del add l l')(h1:k.Perm l)(h2:k'.Perm l'):uU del add k k':=by
 obtain⟨r,h3,h4⟩:=h;exact⟨r,h1.trans h3,h2.trans h4⟩
theorem uU.len (h:uU del add l l'):l'.length+del.length=l.length+add.length:=by
 obtain⟨r,h3,h4⟩:=h;have h5:=h3.length_eq;have h6:=h4.length_eq;rw[ZD]at h5 h6;omega
theorem uU.mem (h:uU del add l l')(he:e∈l'):e∈add\/e∈l:=by
 obtain⟨r,h3,h4⟩:=h;rcases Zs.1 (h4.mem_iff.1 he)with h5|h5
 ·exact .inl h5
 ·exact .inr (h3.mem_iff.2 (by simp[h5]))
structure Cn (del add:List ay)(T T':aC):Prop where
 tg:TG T'
 len:T'.gs.length=T.gs.length
 Jy:uU del add (aM T.gs) (aM T'.gs)
 load_:load T'<=load T+(add.length-del.length)
 at_:∀i s e,aH T'.gs i s= .full e->del=[]\/∃e0,aH T.gs i s= .full e0
theorem S9 (h:TG T)(hk:∀x∈aM T.gs,x.key≠e.key)(ho:load T<8*T.gs.length):
  (aJ T.gs e.key e.hash).1=none/\∃i s,(aJ T.gs e.key e.hash).2.1=some (i,s)/\wu T.gs e.hash i s:=
 ⟨rV hk,Ws h.ok.pow (DF h.ok.wide ho) (rV hk)⟩
theorem Dj {x:Slot}(h:x.isFull=false):x.ents=[]:=by cases x<;>first|rfl|cases h
theorem Px (h:TG T)(hf:wu T.gs e.hash i s)(hk:∀x∈aM T.gs,x.key≠e.key):Cn [] [e] T (j4 T i s e):=by
 have hf':=hf;obtain⟨hi,hs,hn,_⟩:=hf';have h1:=DC hi hs (.full e);have h2:=xO hi hs (.full e);rw[Dj hn,ya]at h1;refine⟨⟨acP h.inv hf hk,h.ok.place hi hs hn e⟩,iO _ _ _ _,⟨aM T.gs,by simp,h1⟩, ?_,λj k x hx=> .inl rfl⟩
 ·have h3:=h1.length_eq;have h4:(Slot.full e).lT=0:=rfl;rw[ZD]at h3;show(aM (putAt T.gs i s (.full e))).length+fH (putAt T.gs i s (.full e))<=(aM T.gs).length+fH T.gs+(1-0);rw[h4]at h2;have h5:(Slot.full e).ents.length=1:=rfl;omega
theorem Py (h:TG T)(he:aH T.gs i s= .full e):Cn [e] [] T (jh T i s)/\(∀j k x,aH (jh T i s).gs j k= .full x↔aH T.gs j k= .full x/\¬(j=i/\k=s)):=by
 obtain⟨hi,hs⟩:=lu (gs:=T.gs) (i:=i) (s:=s) (by rw[he];exact λh=>by cases h)
 obtain⟨x,hx,hxe,lC⟩:∃x:Slot,(jh T i s).gs=putAt T.gs i s x/\(x.isEmpty=true->dP (T.gs.getD i [])=true)/\x.isFull=false:=by
  refine⟨_,rfl, ?_, ?_⟩<;>cases dP (T.gs.getD i [])<;>simp[Slot.isEmpty,Slot.isFull]
 have aeb:∀y,x≠ .full y:=λy hy=>by rw[hy]at lC;cases lC
 have h1:=DC hi hs x;have h2:=xO hi hs x;rw[Dj lC,ya,he]at h1
 have hat:∀j k y,aH (jh T i s).gs j k= .full y↔aH T.gs j k= .full y/\¬(j=i/\k=s):=λj k y=>by
  rw[hx,mh _ _ _ _ _ _ hi hs];by_cases hij:i=j/\s=k
  ·rw[if_pos hij];exact⟨λhh=>absurd hh (aeb y),λhh=>absurd ⟨hij.1.symm,hij.2.symm⟩ hh.2⟩
  ·rw[if_neg hij];exact⟨λhh=>⟨hh,λhh'=>hij ⟨hh'.1.symm,hh'.2.symm⟩⟩,λhh=>hh.1⟩
 refine⟨⟨⟨by rw[hx];exact Wu h.inv hi hs hxe aeb,h.ok.erase he⟩,Dc _ _ _,⟨aM (jh T i s).gs,by rw[hx];exact h1.symm,by simp⟩, ?_,λj k y hy=> .inr ⟨y,((hat j k y).1 hy).1⟩⟩,hat⟩;have h3:=h1.length_eq;rw[ZD]at h3;have h5:(Slot.full e).ents.length=1:=rfl
 have h6:x.lT<=1:=by unfold Slot.lT;split<;>omega
 unfold load;rw[hx];omega
theorem U4 (h:TG T){v:Nat}(he:aH T.gs i s= .full e):Cn [e] [{e with val:=v}] T (replaceM T i s v e):=by
 obtain⟨hi,hs⟩:=lu (gs:=T.gs) (i:=i) (s:=s) (by rw[he];exact λh=>by cases h);obtain⟨r1,r2,h1,h2⟩:=FU hi hs;have h3:=xO hi hs (.full {e with val:=v});rw[he]at h1 h3;have h4:aM (replaceM T i s v e).gs=r1++([{e with val:=v}]++r2):=h2 _;have h1':aM T.gs=r1++([e]++r2):=h1;refine⟨⟨Rv h.inv he rfl rfl,h.ok.replace he⟩,iO _ _ _ _,⟨r1++r2, ?_, ?_⟩, ?_,λj k x hx=> ?_⟩
 ·rw[h1',<-qe,<-qe];exact YY.append_right _
 ·rw[h4,<-qe,<-qe];exact YY.append_right _
 ·unfold load
  have h5:fH (replaceM T i s v e).gs=fH T.gs:=by
   have:(Slot.full e).lT=0:=rfl;have h6:(Slot.full {e with val:=v}).lT=0:=rfl;show fH (putAt T.gs i s _)=_;omega
  rw[h4,h1',h5];simp
 ·have hx':aH (putAt T.gs i s (.full {e with val:=v})) j k= .full x:=hx;rw[mh _ _ _ _ _ _ hi hs]at hx';split at hx'
  ·next hij=>exact .inr ⟨e,by rw[<-hij.1,<-hij.2];exact he⟩
  ·exact .inr ⟨x,hx'⟩
theorem KH (h:TG T)(he:e∈aM T.gs):∃i s,(aJ T.gs e.key e.hash).1=some (i,s)/\aH T.gs i s= .full e:=by
 obtain⟨i,s,hs⟩:=rU.1 he;exact⟨i,s,Um h.inv hs,hs⟩
theorem KI {n:Nat}(h:Pw n):TG (eB n n)/\aM (eB n n).gs=[]/\load (eB n n)=0:=by
 have h1:=ac2 h;have h2:(eB n n).gs=bare n:=zK n
 have h3:aM (eB n n).gs=[]:=by
  have:=h1.live;exact xr.1 (by simp[eB]at this;simpa[eB]using this.symm)
 have h4:=h1.dh;refine⟨⟨by rw[h2];exact Ov h,h1⟩,h3, ?_⟩;unfold load;rw[h3];simp[eB]at h4|-;omega
theorem Ta (h:TG T)(hi:i<T.gs.length):∀k,k<=8->TG (takeN T i k)/\(∀j s e,aH (takeN T i k).gs j s= .full e↔aH T.gs j s= .full e/\¬(j=i/\s<k))/\
  (aM T.gs).Perm (bX ((T.gs.getD i []).take k)++aM (takeN T i k).gs)/\load (takeN T i k)<=load T
 |0,_=>⟨h,λj s e=>by simp[takeN],by simp[bX,takeN],zb _⟩
 |k+1,hk=>by
  obtain⟨h1,h2,h3,h4⟩:=Ta h hi k (by omega);have hw:=h.ok.wide.at_ hi;have hg:(T.gs.getD i [])[k]?=some (aH T.gs i k):=BQ (by omega)
  have ht:bX ((T.gs.getD i []).take (k+1))=bX ((T.gs.getD i []).take k)++(aH T.gs i k).ents:=by
   rw[J0,hg];unfold bX;simp
  show TG (gY _ _ _)/\(∀j s e,aH (gY _ _ _).gs j s= .full e↔_)/\_/\load (gY _ _ _)<=_
  cases hx:aH T.gs i k with
  |full e=>
   have he:aH (takeN T i k).gs i k= .full e:=(h2 i k e).2 ⟨hx,by omega⟩;obtain⟨h5,h6⟩:=Py h1 he
   have hE:gY (takeN T i k) i k=jh (takeN T i k) i k:=by unfold gY;rw[he];rfl
   rw[hE];refine⟨h5.tg,λj s x=> ?_, ?_,qf h5.load_ (by simpa using h4)⟩
   ·rw[h6,h2];constructor
    ·rintro⟨⟨a,b⟩,c⟩;refine⟨a,λhh=> ?_⟩;by_cases hs:s=k
     ·exact c ⟨hh.1,hs⟩
     ·exact b ⟨hh.1,by omega⟩
    ·rintro⟨a,b⟩;exact⟨⟨a,λhh=>b ⟨hh.1,by omega⟩⟩,λhh=>b ⟨hh.1,by omega⟩⟩
   ·rw[takeN,hE,ht,hx,qe];obtain⟨r,h7,h8⟩:=h5.Jy;exact h3.trans ((h7.trans ((h8.symm).append_left _)).append_left _)
  |empty=>
   have hE:gY (takeN T i k) i k=takeN T i k:=by
    unfold gY
    cases hy:aH (takeN T i k).gs i k with
    |full y=>have:=((h2 i k y).1 hy).1;rw[hx]at this;cases this
    |_=>rfl
   rw[hE];refine⟨h1,λj s x=> ?_,by rw[takeN,hE,ht,hx];simpa[Slot.ents]using h3,h4⟩;rw[h2]
   exact⟨fun⟨a,b⟩=>⟨a,λhh=>by
    by_cases hs:s=k
    ·rw[hh.1,hs,hx]at a;cases a
    ·exact b ⟨hh.1,by omega⟩⟩,fun⟨a,b⟩=>⟨a,λhh=>b ⟨hh.1,by omega⟩⟩⟩
  |qP=>
   have hE:gY (takeN T i k) i k=takeN T i k:=by
    unfold gY
    cases hy:aH (takeN T i k).gs i k with
    |full y=>have:=((h2 i k y).1 hy).1;rw[hx]at this;cases this
    |_=>rfl
   rw[hE];refine⟨h1,λj s x=> ?_,by rw[takeN,hE,ht,hx];simpa[Slot.ents]using h3,h4⟩;rw[h2]
   exact⟨fun⟨a,b⟩=>⟨a,λhh=>by
    by_cases hs:s=k
    ·rw[hh.1,hs,hx]at a;cases a
    ·exact b ⟨hh.1,by omega⟩⟩,fun⟨a,b⟩=>⟨a,λhh=>b ⟨hh.1,by omega⟩⟩⟩
theorem Co (h:TG T)(hi:i<T.gs.length):TG (takeN T i 8)/\(∀j s e,aH (takeN T i 8).gs j s= .full e↔aH T.gs j s= .full e/\j≠i)/\
  (aM T.gs).Perm (bX (T.gs.getD i [])++aM (takeN T i 8).gs):=by
 obtain⟨h1,h2,h3,h4⟩:=Ta h hi 8 (zb _);have hw:=h.ok.wide.at_ hi;rw[ym (by omega)]at h3;refine⟨h1,λj s e=> ?_,h3⟩;rw[h2];constructor
 ·rintro⟨a,b⟩;refine⟨a,λhj=>b ⟨hj, ?_⟩⟩;subst hj;have:=(lu (gs:=T.gs) (i:=j) (s:=s) (by rw[a];exact λh=>by cases h)).2;omega
 ·rintro⟨a,b⟩;exact⟨a,λhh=>b hh.1⟩
end
section
variable {d j m n : Nat} {Ts : List aC} {T : aC}
def loads (Ts:List aC):Nat:=(Ts.map load).sum
def dF (Ts:List aC):List ay:=Ts.flatMap λT=>aM T.gs
theorem Bu {α:Type}{l:List α}{x:α}(h:l[j]?=some x):l=l.take j++x::l.drop (j+1)/\∀y,l.set j y=l.take j++y::l.drop (j+1):=by
 obtain⟨hj,rfl⟩:=zz.1 h;refine⟨?_,λy=>pJ hj y⟩;have:=pJ hj l[j]
 rwa [List.set_getElem_self]at this
theorem Mf (h:Ts[j]?=some T)(T':aC):loads (Ts.set j T')+load T=loads Ts+load T':=by
 obtain⟨h1,h2⟩:=Bu h
 have h3:loads Ts=loads (Ts.take j++T::Ts.drop (j+1)):=by rw[<-h1]
 rw[h2 T',h3];unfold loads;simp only[jn,ye,List.sum_append,List.sum_cons];omega
theorem Tc (h:Ts[j]?=some T):load T<=loads Ts:=by
 obtain⟨h1,h2⟩:=Bu h
 have h3:loads Ts=loads (Ts.take j++T::Ts.drop (j+1)):=by rw[<-h1]
 rw[h3];unfold loads;simp only[jn,ye,List.sum_append,List.sum_cons];omega
theorem Eh (h:Ts[j]?=some T):∃A B,dF Ts=A++(aM T.gs++B)/\∀T',dF (Ts.set j T')=A++(aM T'.gs++B):=by
 obtain⟨h1,h2⟩:=Bu h;refine⟨dF (Ts.take j),dF (Ts.drop (j+1)), ?_,λT'=> ?_⟩
 ·have h3:dF Ts=dF (Ts.take j++T::Ts.drop (j+1)):=by rw[<-h1]
  rw[h3];unfold dF;simp
 ·rw[h2 T'];unfold dF;simp
theorem oM {e:ay}:e∈dF Ts↔∃(j:Nat) (T:aC),Ts[j]?=some T/\e∈aM T.gs:=by
 unfold dF;rw[jz];constructor
 ·rintro⟨T,h1,h2⟩;obtain⟨j,hj⟩:=qs h1;exact⟨j,T,hj,h2⟩
 ·rintro⟨j,T,hj,h2⟩;exact⟨T,zE hj,h2⟩
structure Ao (m n d:Nat)(Ts:List aC):Prop where
 len:Ts.length=m
 tg:∀(j:Nat) (T:aC),Ts[j]?=some T->TG T/\T.gs.length=n
 side:∀(j:Nat) (T:aC) (e:ay),Ts[j]?=some T->e∈aM T.gs->dJ m d e.hash=j
theorem Td {h:Nat}(hm:m=1\/m=2):dJ m d h<m:=by
 unfold dJ vM;rcases hm with rfl|rfl
 ·simp
 ·simp;omega
theorem Ao.ak (h:Ao m n d Ts){T':aC}{del add:List ay}(hj:Ts[j]?=some T)(hc:Cn del add T T')(ha:∀e∈add,dJ m d e.hash=j):Ao m n d (Ts.set j T'):=by
 have hset:∀(i:Nat) (X:aC),(Ts.set j T')[i]?=some X->(i=j/\X=T')\/(i≠j/\Ts[i]?=some X):=λi X hX=>by
  rw[qr]at hX;by_cases hij:j=i
  ·rw[if_pos hij]at hX;split at hX
   ·cases hX;exact .inl ⟨hij.symm,rfl⟩
   ·cases hX
  ·rw[if_neg hij]at hX;exact .inr ⟨λhh=>hij hh.symm,hX⟩
 refine⟨by rw[qq];exact h.len,λi X hX=> ?_,λi X e hX he=> ?_⟩
 ·rcases hset i X hX with⟨rfl,rfl⟩|⟨_,h2⟩
  ·exact⟨hc.tg,hc.len.trans (h.tg _ _ hj).2⟩
  ·exact h.tg _ _ h2
 ·rcases hset i X hX with⟨rfl,rfl⟩|⟨_,h2⟩
  ·rcases hc.Jy.mem he with h3|h3
   ·exact ha e h3
   ·exact h.side _ _ _ hj h3
  ·exact h.side _ _ _ h2 he
theorem Mg (hn:Pw n):Ao m n d (List.replicate m (eB n n))/\dF (List.replicate m (eB n n))=[]/\loads (List.replicate m (eB n n))=0:=by
 obtain⟨h1,h2,h3⟩:=KI hn
 have hm:∀(j:Nat) (T:aC),(List.replicate m (eB n n))[j]?=some T->T=eB n n:=λj T hT=>by
  rw[List.getElem?_replicate]at hT;split at hT
  ·cases hT;rfl
  ·cases hT
 refine⟨⟨by simp,λj T hT=> ?_,λj T e hT he=> ?_⟩, ?_, ?_⟩
 ·rw[hm j T hT];exact⟨h1,pW (zb _)⟩
 ·rw[hm j T hT,h2]at he;cases he
 ·exact List.eq_nil_iff_forall_not_mem.2 λe he=>by
   obtain⟨j,T,hT,he⟩:=oM.1 he;rw[hm j T hT,h2]at he;cases he
 ·unfold loads;simp[h3]
theorem moves {B:Nat}(hm:m=1\/m=2)(hB:B<=7*n):∀(es:List ay) (Ts:List aC) (x:bS),Ao m n d Ts->((es++dF Ts).map ay.key).Nodup->(∀e∈es,e.hash<18446744073709551616)->loads Ts+es.length<=B->
  Fits m d Ts es/\Ao m n d (fA m d (x,Ts) es).2/\(dF (fA m d (x,Ts) es).2).Perm (es++dF Ts)/\loads (fA m d (x,Ts) es).2<=loads Ts+es.length/\∃c,(fA m d (x,Ts) es).1=x.add cV c
 | [],Ts,x,h,_,_,_=>⟨trivial,h,by exact List.Perm.refl _,zb _,0,rfl⟩
 |e::es,Ts,x,h,hk,h64,hl=>by
  obtain⟨T,hT⟩:∃T,Ts[dJ m d e.hash]?=some T:=⟨_,zg (by rw[h.len];exact Td hm)⟩;obtain⟨hg,hn⟩:=h.tg _ _ hT
  have hgd:Ts.getD (dJ m d e.hash) noT=T:=by rw[zv,hT];rfl
  have hlT:=Tc hT;simp only[ZS]at hl
  have Jq:∀y∈aM T.gs,y.key≠e.key:=λy hy he=>by
   rw[yb,ye,qa]at hk;exact hk.1 (by rw[<-he];exact QQ (jj _ (oM.2 ⟨_,_,hT,hy⟩)))
  obtain⟨hs1,i,s,hs2,hf⟩:=S9 hg Jq (by omega);have hc:=Px hg hf Jq
  have hpn:Eb T e=j4 T i s e:=by unfold Eb;rw[hs2]
  have hld:=hg.U3;have hcp:O3 T e:=⟨hg.ok,h64 e (by simp),hs1,⟨i,s,hs2⟩,by omega⟩;have hFr:=h.ak hT hc (λy hy=>by simp at hy;rw[hy]);have hls:=Mf hT (j4 T i s e);have hlp:=hc.load_;simp only[ZS,yv]at hlp;obtain⟨A,B',hsp1,hsp2⟩:=Eh hT
  have hpe:(dF (Ts.set (dJ m d e.hash) (j4 T i s e))).Perm (e::dF Ts):=by
   obtain⟨r,h7,h8⟩:=hc.Jy.wrap A B';rw[hsp2,hsp1];exact h8.trans (by simpa using h7.symm)
  have ih:=moves (B:=B) hm hB es (Ts.set (dJ m d e.hash) (j4 T i s e)) (x.add cV (aJ (Ts.getD (dJ m d e.hash) noT).gs e.key e.hash).2.2) hFr
   (((hpe.append_left es).trans List.perm_middle).map ay.key|>.nodup_iff.2 (by simpa using hk)) (λy hy=>h64 y (by simp[hy])) (by omega)
  obtain⟨ih1,ih2,ih3,ih4,c,ih5⟩:=ih
  have hst:fA m d (x,Ts) (e::es)=fA m d (x.add cV (aJ (Ts.getD (dJ m d e.hash) noT).gs e.key e.hash).2.2,Ts.set (dJ m d e.hash) (j4 T i s e)) es:=by
   unfold fA;rw[ju];congr 1;unfold vo;simp only;rw[hgd,hpn]
  rw[hst];refine⟨⟨⟨T,hT,hcp⟩,by rw[hgd,hpn];exact ih1⟩,ih2,ih3.trans ((hpe.append_left es).trans List.perm_middle),by simp only[ZS];omega,_,ih5.trans (bS.add_add _ _ _ _)⟩
theorem Mh (k d:Nat)(x y:bS):∀(es:List ay) (Ts:List aC),(fA k d (x,Ts) es).2=(fA k d (y,Ts) es).2
 | [],_=>rfl
 |e::es,Ts=>by
  unfold fA;rw[ju,ju];exact Mh k d _ _ es _
end
