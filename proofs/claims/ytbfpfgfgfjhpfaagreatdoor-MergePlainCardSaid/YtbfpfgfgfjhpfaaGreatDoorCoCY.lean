/- A core's maintain by its contract. -/
import Derived.Test.YtbfpfgfgfjhpfaaGreatDoorCoCM
import Derived.Test.YtbfpfgfgfjhpfaaGreatDoorCoG
import Derived.Test.YtbfpfgfgfjhpfaaGreatDoorSq
import Derived.Test.YtbfpfgfgfjhpfaaGreatDoorPlA
namespace Go.Proofs.YtbfpfgfgfjhpfaaGreatDoor
set_option maxRecDepth 100000
set_option maxHeartbeats 8000000
open Go.RowKit dP
section
section
variable {W0 : World} {E : Nat → Addr} {H : Nat → Nat} {C : jf} {w0 : World} {G0 : List Nat} {w w' : World} {F : List Nat} {st : nC}
theorem aD.double (h:aD W0 E H C w0 G0 w F st){cb fb fe:Nat}{w1:World}(hc:st.a.cop=none)(hC:jB w1 cb C.A.db C.A.eb fb fe st.a.d 0 st.a.l (List.replicate (2^(st.a.d+1)) 0))(h1:w.heap.size≤cb)(h2:w.heap.size≤fb)(h3:w.heap.size≤fe)(hb:Below w.heap.size w w1)(zP:32∉st.ids):
  ∃F',aD W0 E H {C with A:={C.A with cb:=cb,fb:=fb,fe:=fe},v:=C.v} w0 G0 (w1.setCell ⟨C.mb,13,none⟩ (.pointer (some ⟨cb,0,none⟩))) F' {st with a:={st.a with cop:=some (0,List.replicate (2^(st.a.d+1)) 0)}}:=by
 obtain⟨Fs,hF,hp⟩:=h.aB.pool;have hml:C.mb<w.heap.size:=h.aB.met.lt;have hm:Mod [C.mb] w (w1.setCell ⟨C.mb,13,none⟩ (.pointer (some ⟨cb,0,none⟩))):=(Mod.of_below hb [C.mb]).ak (.inl (by simp)) _ _;have hmb:∀q∈F,q∉[C.mb]:=fun q hq e=>h.hp.mb h.aB.pool (by show C.mb∈F;rw[←List.mem_singleton.1 e];exact hq);have hlts:=h.fH;have yx:∀q∈F,q<w.heap.size:=fun q hq=>hlts q (bg.2 (.inr (.inr (.inl hq))));have zn:∀i,i<st.a.Ns.length→∀q∈Fs i,q∈F:=fun i hi q hq=>hF▸aN.2 (.inl ⟨i,hi,hq⟩);have vP:∀q∈C.A.eT st.a.cop,q∈F:=fun q hq=>hF▸aN.2 (.inr hq)
 have hC2:jB (w1.setCell ⟨C.mb,13,none⟩ (.pointer (some ⟨cb,0,none⟩))) cb C.A.db C.A.eb fb fe st.a.d 0 st.a.l (List.replicate (2^(st.a.d+1)) 0):=
  hC.mod (S:=[C.mb]) ((Mod.refl _ w1).ak (.inl (by simp)) _ _) (fun q hq dY=>by
   have:=List.mem_singleton.1 dY;simp at hq;rcases hq with e|e|e|e|e
   ·omega
   ·exact hmb q (vP q (by unfold dF.eT;simp[e])) (by simp[this])
   ·exact hmb q (vP q (by unfold dF.eT;simp[e])) (by simp[this])
   ·omega
   ·omega)
 have hdf:∀q,q∈({C.A with cb:=cb,fb:=fb,fe:=fe}:dF).eT (some (0,List.replicate (2^(st.a.d+1)) 0))↔q∈C.A.eT st.a.cop∨q=cb∨q=fb∨q=fe:=fun q=>by
  unfold dF.eT;rw[hc];simp;omega
 have hin:∀q,q∈iD ({C.A with cb:=cb,fb:=fb,fe:=fe}:dF) Fs {st.a with cop:=some (0,List.replicate (2^(st.a.d+1)) 0)}→q∈F∨w.heap.size≤q:=fun q hq=>by
  rcases aN.1 hq with⟨i,hi,hq2⟩|hq2
  ·exact .inl (zn i hi q hq2)
  ·rcases(hdf q).1 hq2 with e|e|e|e
   ·exact .inl (vP q e)
   ·exact .inr (by omega)
   ·exact .inr (by omega)
   ·exact .inr (by omega)
 have hP:jk W0 C.mb H ({C.A with cb:=cb,fb:=fb,fe:=fe}:dF) (w1.setCell ⟨C.mb,13,none⟩ (.pointer (some ⟨cb,0,none⟩))) Fs {st.a with cop:=some (0,List.replicate (2^(st.a.d+1)) 0)}:=
  ⟨fun i N hN=>⟨(hp.lW i N hN).1.mod hm (fun q hq=>hmb q (zn i (bN hN) q hq)),(hp.lW i N hN).2⟩,hC2.old,fun next lf he=>by
   have:=Option.some.inj he;cases this
   exact hC2,hp.sep,fun i hi q hq hq2=>by
   have hq':=zn i hi q hq;rcases(hdf q).1 hq2 with e|e|e|e
   ·exact hp.wB i hi q hq e
   ·have:=yx q hq';omega
   ·have:=yx q hq';omega
   ·have:=yx q hq';omega,fun q hq=>by
   rcases hin q hq with e|e
   ·exact hp.low q (hF▸e)
   ·have:=h.aB.env.size;omega,fun hq=>by
   rcases hin _ hq with e|e
   ·exact hmb _ e (by simp)
   ·omega,hp.yA⟩
 refine⟨_,h.upd {C.A with cb:=cb,fb:=fb,fe:=fe} C.v {st with a:={st.a with cop:=some (0,List.replicate (2^(st.a.d+1)) 0)}} hm (fun q hq=>bg.2 (.inl (List.mem_singleton.1 hq))) ((h.aB.aB.mod hm (fun q hq dY=>(h.aB.apart q hq).2.1 (List.mem_singleton.1 dY))).aaB (fun id hid=> ?_)) ⟨Fs,rfl,hP⟩ ⟨rfl, ?_⟩ (mH (st:=st) h hm (fun q hq=> .inl (List.mem_singleton.1 hq))) h.pos hin (fun g hg=>⟨.inl hg,fun hh=>by have:=(h.row.lt g hg).2;omega⟩)⟩
 ·have hne:id≠32:=fun e=>zP (e▸hid);show C.A.val id=({C.A with cb:=cb,fb:=fb,fe:=fe}:dF).val id;unfold dF.val dF.ja;simp only;rw[if_neg hne,if_neg hne];rfl
 ·exact((Met.blk h.aB.met).mod (Mod.of_below hb []) (by simp)).ak 13 _
end
theorem QF {W0:World}{E:Nat→Addr}{P:MP}{α:Type}{jt:Nat→TypeId}{ja:Nat→Addr}{At:World→List Nat→α→Prop}{can:α→Nat→Prop}{left:α→Nat→Nat}{Stp:α→Nat→α→Prop}(HP:jd W0 E P jt ja At can left Stp)(s:SP)(F:List Nat)(K:Nat)(hK:1≤K∧K≤64)(hk:s.k=(K:Int))(b:Int)(ids:List Nat)(a:α)(x:bP)(own:Nat)(lV:own≤1000)(hval:∀id,s.val id= .iface (jt id) (.pointer (some (ja id))))(hcan:∀id∈ids,can a id∧id≤1000)(w:World)(h:bD W0 E P At s w F w b ids a F x):
  Calls Tryz.prog 110 #[fD s.sb,ny P,.int .i64 (own:Int)] w fun e w'=>∃A cc e1 bT a1 a2 F' x' b',e= .returned (.slice A (e1++gP left a2 bT).length cc)∧w'.ownsRow w.heap.size 3 1 (.slice A (e1++gP left a2 bT).length cc) (e1++gP left a2 bT).length (dH (e1++gP left a2 bT))∧vN left Stp ids own (8*K) a a1∧tu left Stp K ids a1 e1 bT a2∧bD W0 E P At s w F w' b' (iQ left a2 bT) a2 F' x'∧d9 x x' 0 (9*K)∧nV P s F' (.slice A (e1++gP left a2 bT).length cc):=by
 by_cases hin:own∈ids
 ·exact JV HP s F K hK hk b ids a x own lV hin hval hcan w h
 ·exact I8 HP s F K hK hk b ids a x own lV hin hval hcan w h
def AX (W0:World)(E:Nat→Addr)(H:Nat→Nat)(C:jf)(w0:World)(G0:List Nat)(st:nC)(id:Nat)(w':World):Prop:=
 ∃(A':dF) (v':Value) (F':List Nat) (a':Pool) (aO:List Nat) (b':Int) (x':bP) (u:Nat),aaD H C.K st.a st.ids id a' aO∧lg a' aO []∧a'.ents.Perm st.a.ents∧aD W0 E H {C with A:=A',v:=v'} w0 G0 w' F' {st with a:=a',ids:=aO,b:=b',x:=x'}∧d9 st.x x' 0 u
theorem WT {l t:Int}{g lo gl:Nat}(h:jD l t g lo gl=0):fK l t g lo gl=false:=by
 unfold jD at h;unfold fK;split at h
 ·next h1=>rw[h1];rfl
 ·split at h
  ·cases h
  ·split at h
   ·cases h
   ·split at h<;>cases h
theorem acW {l t:Int}{g lo gl:Nat}(h:fK l t g lo gl=true):gl<5:=by
 unfold fK at h;simp at h;omega
theorem wC {W0:World}{E:Nat→Addr}{H:Nat→Nat}{C:jf}{w0:World}{G0:List Nat}{w:World}{F:List Nat}{st:nC}(h:aD W0 E H C w0 G0 w F st)(id:Nat)(N:Nd)(hN:st.a.Ns[id]?=some N)(hcp:Ur st.a st.ids id):Calls Tryz.prog 76 #[bM C.mb,.int .i64 (id:Int),aP (C.A.nb id)] w fun e w'=>e= .returned undef∧AX W0 E H C w0 G0 st id w':=by
 have HC:=qd h;obtain⟨c0,c1,c11,c12,c13,c14,c15⟩:=HC.out.cells;have hid:=bN hN;have hbd:=h.bounds
 have lV:id≤1000:=by have:=hbd.2.1;omega
 have h32:id≠32:=by have:=hbd.2.1;omega
 have hO:=hbd.2.2.2 id N hN;obtain⟨Fs,hF,hpo⟩:=h.aB.pool;have DJ:=qd (Lc C.A.db C.A.eb st.a.d st.a.l w hpo.dir);obtain⟨hnA,_⟩:=hpo.lW id N hN
 obtain⟨k,Pf,hW,hcase⟩:∃(k:Nat) (Pf:Bool),(Calls Tryz.prog 104 #[aP (C.A.nb id),.int .i64 (st.a.d:Int)] w fun e w'=>e= .returned (.tuple #[.int .i64 (k:Int),.bool Pf])∧Below w.heap.size w w')∧((N.ph.busy=true∧k=0∧Pf=false)∨(N.ph= .idle∧jD N.T.live N.T.bW N.len N.au st.a.d=k∧fK N.T.live N.T.bW N.len N.au st.a.d=Pf)):=by
  cases hb:N.ph.busy with
  |true=>
   exact⟨0,false,MJ st.a.d hnA hb,.inl ⟨rfl,rfl,rfl⟩⟩
  |false=>
   exact⟨_,_,MK st.a.d hnA hO (RV hb),.inr ⟨RV hb,rfl,rfl⟩⟩
 have HW:=qd hW;have WU:=qd hcase;have HO:=qd hO;have HN:=qd hN;have oq:=qd hcp;have qj:=qd hbd
 have agB:st.ids.length≤33:=by
  have hh:=JW st.ids (List.range 33) hcp.nd (fun x hx=>by
   rw[List.mem_range];rcases(hcp.jw x).2 hx with⟨M,h1,_⟩|⟨_,h1,_⟩
   ·have:=bN h1;have h3:=hbd.2.1;omega
   ·omega)
  simpa using hh
 clear h hW hcase hO hN hcp hpo hF hnA hbd hid;unfold iW at DJ;unfold aP at HW;unfold bM aP;go_in;go_wp2_with fail;refine DJ.out.mono ?_;rintro x w1 ⟨rfl,rfl⟩;go_wp2_with fail;refine HW.out.mono ?_;rintro x w1 ⟨rfl,hb⟩;replace HC:=qd (HC.out.below hb);clear c0 c1 c11 c12 c13 c14 c15 DJ HW hb;by_cases hk0:k=0
 focus
  subst hk0
  have hki:¬((0:Nat):Int)≠0:=by omega
  have hdb:Pf=false:=by
   rcases WU.out with⟨_,_,h1⟩|⟨_,h1,h2⟩
   ·exact h1
   ·rw[←h2];exact WT h1
  subst hdb
  obtain⟨a1,bT,F1,GQ,hC1⟩:∃a1 bT F1,zR st.a st.ids id a1 bT∧(bT=st.ids)∧aD W0 E H C w0 G0 w1 F1 {st with a:=a1,ids:=bT}:=by
   rcases WU.out with⟨h1,_,_⟩|⟨h1,h2,h3⟩
   ·exact⟨st.a,st.ids,F,.busy HN.out h1,rfl,HC.out⟩
   ·obtain⟨Fi,n1,n2,n3,n4,n5,n6⟩:=HC.out.node HN.out;obtain⟨F2,hf2⟩:=n6 w1 Fi [] {N with sl:=0} st.x n1 (abn n2 h1 h2) (fun q hq=> .inl hq) HC.out.aB.met (Mod.refl _ _) (by simp);exact⟨_,st.ids,F2,.none HN.out h1 h2,rfl,hf2⟩
  obtain⟨aaF,hC1⟩:=hC1;obtain⟨hsv,hd1,hl1,hc1,he1⟩:=RX oq.out (fun M hM=>by rw[HN.out]at hM;cases hM;exact HO.out) GQ;have zf:=qd GQ;obtain⟨a2,aL,A1,v1,x2,b2,ha2⟩:∃(a2:Pool) (aL:List Nat) (A1:dF) (v1:Value) (x2:bP) (b2:Int),a2=a1∧aL=bT∧A1=C.A∧v1=C.v∧x2=st.x∧b2=st.b:=⟨_,_,_,_,_,_,rfl,rfl,rfl,rfl,rfl,rfl⟩;obtain⟨g1,g2,g3,g4,g5,g6⟩:=ha2;have uo:=qd (show Ed (Pe st.a id) a1 bT a2 aL from by rw[g1,g2];exact .not);have zo:=qd (show Ee a2 aL id from by rw[g1,g2];exact hsv);have nJ:=qd (show a2.ents=st.a.ents from by rw[g1];exact he1);have qK:=qd (show d9 st.x x2 0 0 from by rw[g5];exact d9.refl _)
  have Us:aL.length≤40:=by rw[g2,aaF];omega
  obtain⟨V,hV⟩:∃V,V=w1:=⟨_,rfl⟩;have oC:=qd (show aD W0 E H {C with A:=A1,v:=v1} w0 G0 V F1 {st with a:=a2,ids:=aL,b:=b2,x:=x2} from by rw[g1,g2,g3,g4,g5,g6,hV];exact hC1);rw[←hV];clear HC hC1 hsv GQ hd1 hl1 hc1 he1 g1 g2 g3 g4 g5 g6 aaF hV WU oq qj HO;have HC:=oC;clear oC;go_upto_region 7 with fail
 rotate_left
 focus
  have hki:¬(k:Int)=0:=by omega
  have hcs:N.ph= .idle∧jD N.T.live N.T.bW N.len N.au st.a.d=k∧fK N.T.live N.T.bW N.len N.au st.a.d=Pf:=by
   rcases WU.out with⟨_,h1,_⟩|h1
   ·exact absurd h1 hk0
   ·exact h1
  have WV:=qd hcs;have GQ:=zR.start (ids:=st.ids) HN.out hcs.1 hcs.2.1 hk0;obtain⟨hsv,hd1,hl1,hc1,he1⟩:=RX oq.out (fun M hM=>by rw[HN.out]at hM;cases hM;exact HO.out) GQ;have zf:=qd GQ;have zo:=qd hsv;have JX:=qd he1;obtain⟨Fi,n1,n2,n3,n4,n5,n6⟩:=HC.out.node HN.out;have jY:=qd (Zt st.a.d k qj.out.1 n1 n2 hcs.1 hcs.2.1 hk0);have HX:=qd n6;have HMb:=qd n3;have Pg:=qd n1.M0
  have acX:id∉st.ids:=fun hh=>by
   have h1:=(oq.out.jw id).2 hh;rw[GN HN.out,hcs.1]at h1;cases h1
  have HNi:=qd acX;have HOs:=qd (Oy n2 hcs.1 qj.out.1 hcs.2.1 hk0).1;clear hcs GQ hsv hd1 hl1 hc1 he1 n1 n2 n3 n4 n5 n6 acX WU;unfold aP at jY;go_wp2_with fail;refine jY.out.mono ?_;rintro x w2 ⟨rfl,F',q1,q2,q3⟩;obtain⟨F2,hf2⟩:=HX.out w2 F' _ _ st.x q1 HOs.out q2 (HC.out.aB.met.mod q3 (fun hq=>HMb.out (by rw[show C.mb=C.A.nb id from List.mem_singleton.1 hq];exact Pg.out))) q3 (fun q hq=> .inr (by rw[List.mem_singleton.1 hq];exact Pg.out));have oC:=qd hf2;clear hf2 q1 q2 q3 HC jY HX HMb Pg HOs;go_wp2_with fail;refine(jJ w2).mono ?_;rintro x w3 ⟨rfl,rfl⟩;have Ph:=qd (O7 oC.out id 132 ⟨C.A.nb id,0,none⟩ (by unfold dF.val dF.jt dF.ja;rw[if_neg h32,if_neg h32]) HNi.out lV (by show st.ids.length<40;omega));unfold bM at Ph;go_wp2_with fail;refine Ph.out.mono ?_;rintro x w4 ⟨rfl,h4⟩;have oL:=qd h4;clear h4 oC Ph HNi;cases hdv:Pf
  case' false=>
   subst hdv;obtain⟨c0,c1,c11,c12,c13,c14,c15⟩:=oL.out.cells;go_upto_region 7 with fail;clear c0 c1 c11 c12 c13 c14 c15;obtain⟨a2,aL,A1,v1,x2,b2,F1,V,ha2⟩:∃(a2:Pool) (aL:List Nat) (A1:dF) (v1:Value) (x2:bP) (b2:Int) (F1:List Nat) (V:World),a2={st.a with Ns:=st.a.Ns.set id (N.start k)}∧aL=st.ids++[id]∧A1=C.A∧v1=C.v∧x2=st.x.add (cU 1) 1∧b2=st.b∧F1=F2∧V=w4:=⟨_,_,_,_,_,_,_,_,rfl,rfl,rfl,rfl,rfl,rfl,rfl,rfl⟩;obtain⟨g1,g2,g3,g4,g5,g6,g7,g8⟩:=ha2;obtain⟨a1,bT,hg⟩:∃(a1:Pool) (bT:List Nat),a1=a2∧bT=aL:=⟨_,_,rfl,rfl⟩;obtain⟨g9,g10⟩:=hg;have uo:=qd (show Ed (Pe st.a id) a1 bT a2 aL from by rw[g9,g10];exact .not);have Ef:=qd (show zR st.a st.ids id a1 bT from by rw[g9,g10,g1,g2];exact zf.out);have Eh:=qd (show Ee a2 aL id from by rw[g1,g2];exact zo.out);have nJ:=qd (show a2.ents=st.a.ents from by rw[g1];exact JX.out);have qK:=qd (show d9 st.x x2 0 1 from by rw[g5];exact tC _ 1)
   have Us:aL.length≤40:=by rw[g2,List.length_append,List.length_singleton];omega
   have kF:=qd (show aD W0 E H {C with A:=A1,v:=v1} w0 G0 V F1 {st with a:=a2,ids:=aL,b:=b2,x:=x2} from by rw[g1,g2,g3,g4,g5,g6,g7,g8];exact oL.out);rw[←g8];clear oL zf zo JX g1 g2 g3 g4 g5 g6 g7 g8 g9 g10 WV oq qj HO;have HC:=kF;have zf:=Ef;have zo:=Eh;clear kF Ef Eh
  case' true=>
   cases GK:st.a.cop
   case' some cc=>
    subst hdv;obtain⟨c0,c1,c11,c12,c13,c14,c15⟩:=oL.out.cells
    have hcv:lX C.A st.a.cop= .pointer (some ⟨C.A.cb,0,none⟩):=by unfold lX;rw[GK];rfl
    have ZM:w4.cell? ⟨C.mb,13,none⟩=some (.pointer (some ⟨C.A.cb,0,none⟩)):=by rw[←hcv];exact c13
    clear c13 hcv;go_upto_region 7 with fail;clear c0 c1 c11 c12 ZM c14 c15;obtain⟨a2,aL,A1,v1,x2,b2,F1,V,ha2⟩:∃(a2:Pool) (aL:List Nat) (A1:dF) (v1:Value) (x2:bP) (b2:Int) (F1:List Nat) (V:World),a2={st.a with Ns:=st.a.Ns.set id (N.start k)}∧aL=st.ids++[id]∧A1=C.A∧v1=C.v∧x2=st.x.add (cU 1) 1∧b2=st.b∧F1=F2∧V=w4:=⟨_,_,_,_,_,_,_,_,rfl,rfl,rfl,rfl,rfl,rfl,rfl,rfl⟩;obtain⟨g1,g2,g3,g4,g5,g6,g7,g8⟩:=ha2;obtain⟨a1,bT,hg⟩:∃(a1:Pool) (bT:List Nat),a1=a2∧bT=aL:=⟨_,_,rfl,rfl⟩;obtain⟨g9,g10⟩:=hg;have uo:=qd (show Ed (Pe st.a id) a1 bT a2 aL from by rw[g9,g10];exact .not);have Ef:=qd (show zR st.a st.ids id a1 bT from by rw[g9,g10,g1,g2];exact zf.out);have Eh:=qd (show Ee a2 aL id from by rw[g1,g2];exact zo.out);have nJ:=qd (show a2.ents=st.a.ents from by rw[g1];exact JX.out);have qK:=qd (show d9 st.x x2 0 1 from by rw[g5];exact tC _ 1)
    have Us:aL.length≤40:=by rw[g2,List.length_append,List.length_singleton];omega
    have kF:=qd (show aD W0 E H {C with A:=A1,v:=v1} w0 G0 V F1 {st with a:=a2,ids:=aL,b:=b2,x:=x2} from by rw[g1,g2,g3,g4,g5,g6,g7,g8];exact oL.out);rw[←g8];clear oL zf zo JX g1 g2 g3 g4 g5 g6 g7 g8 g9 g10 WV oq qj HO;have HC:=kF;have zf:=Ef;have zo:=Eh;clear kF Ef Eh
   case' none=>
    subst hdv;obtain⟨c0,c1,c11,c12,c13,c14,c15⟩:=oL.out.cells
    have hcv:lX C.A st.a.cop= .pointer none:=by unfold lX;rw[GK];rfl
    have ZM:w4.cell? ⟨C.mb,13,none⟩=some (.pointer none):=by rw[←hcv];exact c13
    have hd5:st.a.d<5:=acW WV.out.2.2;have AV:=qd GK;obtain⟨Fs4,hF4,hp4⟩:=oL.out.aB.pool;have jS:=qd (Qz C.A.db C.A.eb st.a.d st.a.l hd5 w4 hp4.dir)
    have hn32:32∉st.ids++[id]:=fun hh=>by
     rcases List.mem_append.1 hh with h1|h1
     ·rcases(oq.out.jw 32).2 h1 with⟨M,h2,_⟩|⟨_,_,c,h2⟩
      ·have:=bN h2;have h3:=qj.out.2.1;omega
      ·rw[GK]at h2;cases h2
     ·exact h32 (List.mem_singleton.1 h1).symm
    have ZN:=qd hn32;have HD5:=qd hd5;clear c13 hcv hF4 hp4 hn32 GK;unfold iW qz at jS;go_wp2_with fail;refine jS.out.mono ?_;rintro x w5 ⟨cb,fb,fe,rfl,WO,⟨z1,z2,z3⟩,hb5⟩;have FT:=qd WO;have RY:=qd hb5;have hB:=(Met.blk oL.out.aB.met).mod (Mod.of_below hb5 []) (by simp);have e13:w5.cell? ⟨C.mb,13,none⟩=some (lX C.A st.a.cop):=hB.cell 13;have g13:w5.frozen? ⟨C.mb,13,none⟩=false:=hB.frozen 13;clear c0 c1 c11 c12 ZM c14 c15 hB WO hb5 jS;go_wp2_with fail;refine(YX (some ⟨cb,0,none⟩) w5).mono ?_;rintro x w6 ⟨rfl,rfl⟩;obtain⟨F6,Ei⟩:=oL.out.double AV.out FT.out z1 z2 z3 RY.out ZN.out;go_upto_region 6 with fail;refine bU (F:=fun v=>aD W0 E H {C with A:={C.A with cb:=cb,fb:=fb,fe:=fe},v:=C.v} w0 G0 v F6 {st with a:={st.a with Ns:=st.a.Ns.set id (N.start k),cop:=some (0,List.replicate (2^(st.a.d+1)) 0)},ids:=st.ids++[id],x:=st.x.add (cU 1) 1}) Ei ?_;rintro w7 hC7;have LA:=qd hC7;have k13:w7.cell? ⟨C.mb,13,none⟩=some (.pointer (some ⟨cb,0,none⟩)):=LA.out.cells.2.2.2.2.1;have Ph:=qd (O7 LA.out 32 142 ⟨cb,0,none⟩ (by unfold dF.val dF.jt dF.ja;rw[if_pos rfl,if_pos rfl]) ZN.out (by omega) (by show(st.ids++[id]).length<40;rw[List.length_append,List.length_singleton];omega));unfold bM at Ph;clear Ei hC7 e13 g13 oL FT RY z1 z2 z3;go_wp2_with fail;refine Ph.out.mono ?_;rintro x w8 ⟨rfl,h8⟩;have HC8:=qd h8;clear h8 Ph LA k13
    obtain⟨a2,aL,A1,v1,x2,b2,F1,V,ha2⟩:∃(a2:Pool) (aL:List Nat) (A1:dF) (v1:Value) (x2:bP) (b2:Int) (F1:List Nat) (V:World),a2={st.a with Ns:=st.a.Ns.set id (N.start k),cop:=some (0,List.replicate (2^(st.a.d+1)) 0)}∧aL=st.ids++[id]++[32]∧A1={C.A with cb:=cb,fb:=fb,fe:=fe}∧v1=C.v∧x2=(st.x.add (cU 1) 1).add (cU 1) 1∧b2=st.b∧F1=F6∧V=w8:=⟨_,_,_,_,_,_,_,_,rfl,rfl,rfl,rfl,rfl,rfl,rfl,rfl⟩;obtain⟨g1,g2,g3,g4,g5,g6,g7,g8⟩:=ha2;obtain⟨a1,bT,hg⟩:∃(a1:Pool) (bT:List Nat),a1={st.a with Ns:=st.a.Ns.set id (N.start k)}∧bT=st.ids++[id]:=⟨_,_,rfl,rfl⟩;obtain⟨g9,g10⟩:=hg
    have hdb:Ed (Pe st.a id) a1 bT a2 aL:=by rw[g9,g10,g1,g2];exact .yes ⟨N,HN.out,WV.out.2.2⟩ AV.out HD5.out
    have uo:=qd hdb;have Ef:=qd (show zR st.a st.ids id a1 bT from by rw[g9,g10];exact zf.out);have Eh:=qd (abC (show Ee a1 bT id from by rw[g9,g10];exact zo.out) (by rw[g9];simpa using qj.out.2.1) hdb).1;have nJ:=qd (show a2.ents=st.a.ents from by rw[g1];exact JX.out);have qK:=qd (show d9 st.x x2 (0+0) (1+1)from by rw[g5];exact(tC _ 1).trans (tC _ 1))
    have Us:aL.length≤40:=by rw[g2,List.length_append,List.length_append,List.length_singleton,List.length_singleton];omega
    have kF:=qd (show aD W0 E H {C with A:=A1,v:=v1} w0 G0 V F1 {st with a:=a2,ids:=aL,b:=b2,x:=x2} from by rw[g1,g2,g3,g4,g5,g6,g7,g8];exact HC8.out);rw[←g8];clear HC8 zf zo JX g1 g2 g3 g4 g5 g6 g7 g8 g9 g10 hdb WV oq qj HO AV HD5 ZN;have HC:=kF;have zf:=Ef;have zo:=Eh;clear kF Ef Eh;go_upto_region 7 with fail
 all_goals
  have FU:=qd (HC.out.below (Below.refl V.heap.size V).drew);have e14:V.cell? ⟨C.mb,14,none⟩=some (.pointer (some ⟨C.sb,0,none⟩)):=HC.out.cells.2.2.2.2.2.1;have hbd:=FU.out.bounds
  have HSe:=qd (QF FU.out.hp ({C with A:=A1,v:=v1}:jf).s F1 C.K FU.out.kk rfl b2 aL a2 x2 id lV (fun _=>rfl) (fun j hj=>⟨(zo.out.pre.jw j).2 hj,by
   rcases(zo.out.pre.jw j).2 hj with⟨M,h1,_⟩|⟨_,h1,_⟩
   ·have:=bN h1;have h3:=hbd.2.1;simp only at h3;omega
   ·omega⟩) (World.drew V) FU.out.aB)
  have HS2:=qd (show Calls Tryz.prog 110 #[.pointer (some ⟨C.sb,0,none⟩),.pointer (some ⟨C.mb,3,none⟩),.int .i64 (id:Int)] (World.drew V) _ from HSe.out);clear HSe HC hbd;go_upto_region 7 with fail;refine rT (fun(w':World)=>w'.cell? ⟨C.mb,14,none⟩=some (.pointer (some ⟨C.sb,0,none⟩))) [8] ?_;have hHeld:=e14;refine vW 0 rfl ?_;refine vW 1 rfl ?_;refine vW 2 rfl ?_;refine vT 3 rfl ?_;refine vW 4 rfl ?_;refine vW 5 rfl ?_;refine vW 6 rfl ?_;refine vW 7 rfl ?_;refine vW 10 rfl ?_;refine nT 8 rfl fun K hK=> ?_;go_simp;refine(HS2.out).mono ?_;rintro y V2 ⟨A9,c9,e1,nW,a3,a4,F4,x4,b4,rfl,hrow,hown,hoth,hs,hco,hra⟩;obtain⟨acY,Ut⟩:=abD FU.out.kk.1 zo.out hown hoth;have kF:=qd (FU.out.served hs Ut.len Ut.cop);have AQ:=qd acY;have gW:=qd hown;have FR:=qd hoth;have Ej:=qd (show a4.ents.Perm st.a.ents from by rw[←nJ.out];exact Ut.ents);have acZ:=qd (qK.out.trans hco);obtain⟨pend,Uu⟩:∃p,p=e1++gP Pool.left a4 nW:=⟨_,rfl⟩;rw[←Uu]at hrow hra⊢;have HPe:=qd Uu;have Jd:=qd hrow
  have RZ:=qd (show∀g,(Value.slice A9 pend.length c9).ownBlock=some g→g∉({C with A:=A1,v:=v1}:jf).foot F4 from fun g hg hq=>by
   have hl:=(hrow.lt g hg);rcases bg.1 hq with h1|h1|h1|h1
   ·exact hra g hg (by rw[h1];exact List.mem_cons_self ..)
   ·exact hra g hg (List.mem_cons_of_mem _ (List.mem_append_left _ h1))
   ·exact hra g hg (List.mem_cons_of_mem _ (List.mem_append_right _ h1))
   ·have:=(FU.out.row.lt g h1).2;omega)
  obtain⟨bs,hbs⟩:∃bs,bs=(World.drew V).heap.size:=⟨_,rfl⟩;rw[←hbs]at Jd;clear hrow hown hoth hs hco hra acY Ut Uu HS2 FU zo nJ qK hbs;go_wp2_with fail;refine kO hK ?_;clear hK K;refine vL 9 rfl ?_;refine aY (by kernel_rfl) ?_ _
  have hpl:pend.length≤40:=by
   have h1:=sG FR.out;have h2:=congrArg List.length h1;rw[List.length_append]at h2;have h3:(gP Pool.left a4 nW).length≤nW.length:=List.length_filter_le _ _;rw[HPe.out,List.length_append];have h4:=Us;omega
  clear e14;go_wp2;go_loopw [9,67] (fun _ v67 wr=>∃(i:Nat) (A':dF) (v':Value) (F':List Nat) (a':Pool) (x':bP) (u':Nat),i≤pend.length∧v67= .int .i64 (i:Int)∧Hid (aD W0 E H {C with A:=A',v:=v'} w0 G0 wr F' {st with a:=a',ids:=iQ Pool.left a4 nW,b:=b4,x:=x'})∧Hid (lg a' (iQ Pool.left a4 nW) (pend.drop i))∧Hid (∀c,yD H a' (pend.drop i) c→yD H a4 pend c)∧Hid (a'.ents.Perm st.a.ents)∧Hid (d9 st.x x' 0 u')∧Hid (wr.ownsRow bs 3 1 (.slice A9 pend.length c9) pend.length (dH pend))∧Hid (∀g,(Value.slice A9 pend.length c9).ownBlock=some g→g∉({C with A:=A',v:=v'}:jf).foot F')) (fun _ v67 _=>pend.length-(intOf v67).toNat)
  case atStart=>exact⟨0,A1,v1,F4,a4,x4,_,by omega,rfl,kF,qd (by rw[List.drop_zero,HPe.out];exact AQ.out),qd (fun _ h=>h),Ej,acZ,Jd,RZ⟩
  case round=>
   clear kF AQ Ej acZ Jd RZ;obtain⟨i,A',v',F',a',x',u',hi,rfl,HC,AQ,HEa,Ej,qK,Jd,RZ⟩:=hrel;by_cases hlt:i<pend.length
   ·have hlt':(i:Int)<(pend.length:Int):=by omega
    have hi0:(0:Int)≤(i:Int):=by omega
    have acO:(i:Int)≤41:=by omega
    obtain⟨j,hj⟩:∃j,pend[i]?=some j:=⟨_,List.getElem?_eq_getElem hlt⟩;obtain⟨g,hA9,hge,hgl,hce,_⟩:=nk Jd.out hj;have Lv:=qd (drop_cons hj);have HU:=qd (Ec HC.out.again 1 (Nat.le_refl _));have HA9:=qd hA9;subst hA9;clear hj;go_wp2_with fail;refine HU.out.mono ?_;rintro y w1 ⟨rfl,h1⟩;have HR1:=qd (jX Jd.out h1.mod (fun k hk=>RZ.out k hk));have ZO:=qd (show∀g',(Value.slice (some ⟨g,0,none⟩) pend.length c9).ownBlock=some g'→g'∉({C with A:=A',v:=v'}:jf).foot F' from RZ.out);have nD:=qd (HC.out.chain h1);have GH:=qd (qK.out.trans (tC _ 1))
    have hin:lg a' (iQ Pool.left a4 nW) (j::pend.drop (i+1)):=by rw[←Lv.out];exact AQ.out
    have hbd:=nD.out.bounds;have dU:=qd (ZL nD.out.again j (pend.drop (i+1)) hin);have ac0:=qd (fun(b:Pool) (hb:BX H a' j b)=>ZK hin hb hbd.1 hbd.2.1 hbd.2.2.1);clear h1 hin HC Jd RZ HU AQ hce qK hbd;unfold bM at dU;go_wp2_with fail;refine dU.out.mono ?_;rintro y w2 ⟨rfl,A2,v2,F2,b2',x2',u2',hE,hC2,D9⟩;obtain⟨k1,k2,k3,k4,k5⟩:=ac0.out b2' hE;have oC:=qd (nD.out.chain hC2);have HR2:=qd (jX HR1.out hC2.mod (fun k hk=>ZO.out k hk))
    have aeH:=qd (show∀g',(Value.slice (some ⟨g,0,none⟩) pend.length c9).ownBlock=some g'→g'∉({C with A:=A2,v:=v2}:jf).foot F2 from fun g' hg' hq=>by
     rcases hC2.sub g' hq with h1|h1
     ·exact ZO.out g' hg' h1
     ·have:=(HR1.out.lt g' hg').2;omega)
    have HK1:=qd k1;have HK4:=qd (k4.trans Ej.out);have aeI:=qd (fun c (hc:yD H b2' (pend.drop (i+1)) c)=>HEa.out c (by rw[Lv.out];exact .cons hE hc));have OW:=qd (GH.out.trans D9);clear hE hC2 D9 k1 k2 k3 k4 k5 nD HR1 ZO dU ac0 HEa Ej GH;go_wp2;go_roundw
    case rel=>exact⟨i+1,A2,v2,F2,b2',x2',_,by omega,by go_num,oC,HK1,aeI,HK4,OW,HR2,aeH⟩
    case measure=>simp[intOf];omega
   ·obtain rfl:i=pend.length:=by omega
    have hlt':¬(pend.length:Int)<(pend.length:Int):=by omega
    have hIn:=AQ.out;have hEa:=HEa.out;rw[List.drop_length]at hIn hEa;have HEx:=qd (show AX W0 E H C w0 G0 st id wr from⟨A',v',F',a',_,b4,x',u',⟨a1,bT,a2,aL,a3,e1,nW,a4,zf.out,uo.out,gW.out,FR.out,by rw[←HPe.out];exact hEa a' (.nil a'),rfl⟩,hIn,Ej.out,HC.out,qK.out⟩);clear hIn hEa;go_wp2;go_end0
    first|exact⟨rfl,HEx.out⟩|exact HEx.out
end
section
variable {a : Pool} {e : av} {id key : Nat} {N : Nd}
theorem Jf {H:Nat→Nat}(hd:fB a)(h5:a.d≤5)(ho:∀(i:Nat) (N:Nd),a.Ns[i]?=some N→eP H N):(a.ents.map av.key).Nodup:=by
 unfold Pool.ents;rw[List.map_flatMap];unfold List.Nodup;rw[List.pairwise_flatMap];refine⟨fun N hN=> ?_, ?_⟩
 ·obtain⟨i,hi⟩:=List.getElem?_of_mem hN;exact(ho i N hi).keys
 ·rw[List.pairwise_iff_getElem];intro i j hi hj hij x hx y hy hxy;obtain⟨e,he,rfl⟩:=List.mem_map.1 hx;obtain⟨e',he',rfl⟩:=List.mem_map.1 hy;have g1:a.Ns[i]?=some a.Ns[i]:=List.getElem?_eq_getElem hi;have g2:a.Ns[j]?=some a.Ns[j]:=List.getElem?_eq_getElem hj;obtain⟨k1,k2⟩:=(ho _ _ g1).hash e he;obtain⟨k3,k4⟩:=(ho _ _ g2).hash e' he'
  have hh:e.hash=e'.hash:=by rw[k1.hash,k3.hash,hxy]
  have a1:=hd.O5 k1.h64 h5 g1 k2;have a2:=hd.O5 k3.h64 h5 g2 k4;rw[hh,a2]at a1;omega
theorem mI:e∈a.ents↔∃(i:Nat) (N:Nd),a.Ns[i]?=some N∧e∈N.ents:=by
 unfold Pool.ents;rw[List.mem_flatMap];constructor
 ·rintro⟨N,h1,h2⟩;obtain⟨i,hi⟩:=List.getElem?_of_mem h1;exact⟨i,N,hi,h2⟩
 ·rintro⟨i,N,h1,h2⟩;exact⟨N,List.mem_of_getElem? h1,h2⟩
theorem El {H:Nat→Nat}(hd:fB a)(h5:a.d≤5)(ho:∀(i:Nat) (N:Nd),a.Ns[i]?=some N→eP H N)(hid:a.l.getD (eF (H key) a.d) 0=id)(hN:a.Ns[id]?=some N)(he:e∈a.ents)(hk:e.key=key):e∈N.ents:=by
 obtain⟨j,M,h1,h2⟩:=mI.1 he;obtain⟨k1,k2⟩:=(ho j M h1).hash e h2;have:=hd.O5 k1.h64 h5 h1 k2;rw[k1.hash,hk,hid]at this;subst this;rw[hN]at h1;cases h1;exact h2
theorem WX {H:Nat→Nat}(hd:fB a)(h5:a.d≤5)(ho:∀(i:Nat) (N:Nd),a.Ns[i]?=some N→eP H N)(hid:a.l.getD (eF (H key) a.d) 0=id)(hN:a.Ns[id]?=some N):look N.ents key=look a.ents key:=by
 cases h:look N.ents key with
 |some e=>
  obtain⟨h1,h2⟩:=rz h;have:=jq (Jf hd h5 ho) (mI.2 ⟨id,N,hN,h1⟩);rw[h2]at this;exact this.symm
 |none=>
  refine(zl fun e he hk=> ?_).symm;have h1:=El hd h5 ho hid hN he hk;have:=jq (ho id N hN).keys h1;rw[hk,h]at this;cases this
theorem Pj {H:Nat→Nat}{ids:List Nat}{N1:Nd}{del add:List av}(h:lg a ids [])(hN:a.Ns[id]?=some N)(hw:Wr H del add N N1):Ur {a with Ns:=a.Ns.set id N1} ids id:=by
 have hid:=bN hN;have hget:=nE (N':=N1) hid;have hL:=hw.like;refine⟨h.dir.alike hN hL.pfx hL.au (fun hb hk=>h.dir.split id N hN (by rw[←hL.busy];exact hb) (by rw[←hL.kind];exact hk)),fun j=> ?_,h.nd,fun j hj=> ?_,fun i X hX hi=> ?_⟩
 ·have:=h.jw j;simp only[List.not_mem_nil,or_false]at this;rw[←this];unfold Pool.can;simp only;rw[hget];by_cases hj:j=id
  ·subst hj;rw[if_pos rfl,hN];simp[hL.busy]
  ·rw[if_neg hj]
 ·have:=h.some_ j hj;unfold Pool.left at this⊢;simp only;rw[hget];by_cases hj2:j=id
  ·subst hj2;rw[if_pos rfl];rw[hN]at this;show 1≤N1.left;rw[hw.left];exact this
  ·rw[if_neg hj2];exact this
 ·have iU:(a.Ns.set id N1)[i]?=some X:=hX;rw[hget,if_neg hi]at iU;exact h.sl i X iU (by simp)
def Em (W0:World)(E:Nat→Addr)(H:Nat→Nat)(C:jf)(w0:World)(G0:List Nat)(st:nC)(id:Nat)(del add:List av)(len':Nat)(w':World):Prop:=
 ∃(N N1:Nd) (x1:bP),st.a.Ns[id]?=some N∧Wr H del add N N1∧d9 ⟨st.x.all,⟨0,0,0⟩⟩ x1 128 0∧AX W0 E H C w0 G0 {st with a:={st.a with Ns:=st.a.Ns.set id N1},len:=len',x:=x1} id w'
section
variable {W0 : World} {E : Nat → Addr} {H : Nat → Nat} {C : jf} {w0 : World} {G0 : List Nat} {w w' : World} {F : List Nat} {st : nC}
theorem qg (h:aD W0 E H C w0 G0 w F st):Calls Tryz.prog 71 #[.pointer (some ⟨C.mb,3,none⟩)] w fun e w'=>e= .returned undef∧aD W0 E H C w0 G0 w' F {st with x:=⟨st.x.all,⟨0,0,0⟩⟩}:=
 (Fj C.mb _ _ _ 3 st.x.all st.x.last C.m w h.aB.met).mono fun _ _ ⟨h1,h2,h3⟩=>⟨h1,h.met h2 h3⟩
theorem Wr.refl (h:eP H N):Wr H [] [] N N:=⟨Like.refl N,rfl,⟨N.ents,by simp,by simp⟩,h,fun _=>rfl,fun _=>Nat.le_add_right _ _⟩
end
theorem ZP {W0:World}{E:Nat→Addr}{H:Nat→Nat}{C:jf}{w0:World}{G0:List Nat}{w:World}{F:List Nat}{st:nC}(h:aD W0 E H C w0 G0 w F st)(hi:lg st.a st.ids [])(key:Nat)(h64:H key<18446744073709551616):Calls Tryz.prog 116 #[bM C.mb,.int .u64 (key:Int),.int .u64 (H key:Int)] w fun e w'=>e= .returned (.tuple #[.int .u64 (((look st.a.ents key).getD ⟨0,0,0⟩).val:Int),.bool (look st.a.ents key).isSome])∧∃x',aD W0 E H C w0 G0 w' F {st with x:=x'}∧d9 ⟨st.x.all,⟨0,0,0⟩⟩ x' 128 0:=by
 have ng:=qd (qg h);have hbd:=h.bounds;have qj:=qd hbd;have HI:=qd hi;obtain⟨N,hN,htp⟩:=hi.dir.at_ h64 hbd.1;have DR:=qd htp;obtain⟨id,hid⟩:∃id,id=st.a.l.getD (eF (H key) st.a.d) 0:=⟨_,rfl⟩;rw[←hid]at hN;have HN:=qd hN;have oz:=qd hid;clear h hi hbd hN hid htp;unfold bM;go_in;go_wp2_with fail;refine ng.out.mono ?_;rintro y w1 ⟨rfl,h1⟩;have HC:=qd h1;clear h1 ng;have pJ:=qd (xH HC.out (H key) id h64 oz.out.symm (bN HN.out));unfold bM aP at pJ;go_wp2_with fail;refine pJ.out.mono ?_;rintro y w2 ⟨rfl,hb⟩;replace HC:=qd (HC.out.below hb);clear hb pJ;go_wp2_with fail;refine(lu (some ⟨C.mb,3,none⟩) w2).mono ?_;rintro y w3 ⟨rfl,hb⟩;replace HC:=qd (HC.out.below hb);clear hb;obtain⟨Fi,n1,n2,n3,n4,n5,n6⟩:=HC.out.node HN.out;have hlk:=WX HI.out.dir qj.out.1 qj.out.2.2.2 oz.out.symm HN.out;have tZ:=qd hlk;have Af:=aby key n1 n2 h64 HC.out.aB.met HC.out.aB.env HC.out.aB.uw n3;obtain⟨e0,he0⟩:∃e0:av,e0=(look N.ents key).getD ⟨0,0,0⟩:=⟨_,rfl⟩;obtain⟨b0,hb0⟩:∃b0,b0=(look N.ents key).isSome:=⟨_,rfl⟩;unfold kH at Af;rw[←he0,←hb0]at Af;have jT:=qd Af;have LB:=qd he0;have HB0:=qd hb0;clear n1 n2 n3 n4 n5 n6 hlk Af he0 hb0;unfold aP aR at jT;go_wp2_with fail;refine jT.out.mono ?_;rintro y w4 ⟨rfl,x4,h4,h5,h6⟩;have kF:=qd (HC.out.met h4 h6);have qK:=qd h5;clear h4 h5 h6 jT HC;go_wp2;have FT:=qd (kF.out.below ((Below.refl w4.heap.size w4).alloc (Nat.le_refl _) (.cells #[.int .u64 (e0.key:Int),.int .u64 (e0.val:Int),.int .u64 (e0.hash:Int)] 76)))
 refine bodyPost_ret (v:= .tuple #[.int .u64 (e0.val:Int),.bool b0]) (by simp[results,Tryz.results116,go_sem]) rfl ⟨?_,x4,FT.out,qK.out⟩;rw[←tZ.out,←LB.out,←HB0.out]
theorem AX.chain {W0:World}{E:Nat→Addr}{H:Nat→Nat}{C:jf}{w0:World}{G0:List Nat}{w w':World}{F:List Nat}{st:nC}(h:aD W0 E H C w0 G0 w F st)(k:AX W0 E H C w (C.foot F) st id w'):AX W0 E H C w0 G0 st id w'∧Mod (C.foot F) w w':=by
 obtain⟨A',v',F',a',aO,b',x',u,k1,k2,k3,k4,k5⟩:=k;exact⟨⟨A',v',F',a',aO,b',x',u,k1,k2,k3,h.chain k4,k5⟩,k4.mod⟩
end
section
variable {W0 w w0 : World} {E : Nat → Addr} {H : Nat → Nat} {C : jf} {F G0 : List Nat} {st : nC}
theorem aD.aside {w':World}{b:Nat}(hC:aD W0 E H C w0 G0 w F st)(hm:Mod [b] w w')(hb:b∉C.foot F)(h0:w0.heap.size≤b):aD W0 E H C w0 G0 w' F st:=by
 rw[bg]at hb;simp only[not_or]at hb
 have hd:∀q∈[b],q≠C.mb∧q∉C.s.blocks∧q∉F∧C.v.ownBlock≠some q:=fun q hq=>by rw[List.mem_singleton.1 hq];exact hb
 have hW:=hC.qH;refine⟨bD.start (hC.aB.aB.mod hm (fun q hq dY=>(hd q dY).2.1 hq)) (hC.hp.zN hC.aB.pool hm (fun q hq dY=>(hd q dY).2.2.1 hq)) (hC.aB.met.mod hm (fun hq=>(hd _ hq).1 rfl)) (hC.aB.env.mod hm (fun q hq=>by rw[List.mem_singleton.1 hq];omega)) hC.aB.apart hC.aB.uw,jX hC.row hm (fun k hk Jc=>(hd k Jc).2.2.2 hk),hC.AU,hC.pos,hC.kk,hC.mm,hC.qH,hC.sub,hC.mod.trans hm (fun _ hh _=>hh) (fun k hk hl=> ?_)⟩;rw[List.mem_singleton.1 hk]at hl;omega
def WY (W0:World)(E:Nat→Addr)(H:Nat→Nat)(C:jf)(w0:World)(G0:List Nat)(F:List Nat)(st:nC)(key hash:Nat)(v:Value)(w':World):Prop:=
 ∃(id:Nat) (N:Nd) (o:Option av) (x':bP),st.a.Ns[id]?=some N∧id=st.a.l.getD (eF hash st.a.d) 0∧gM ⟨key,0,hash⟩ N.ents o∧v= .tuple #[aR (o.getD ⟨0,0,0⟩),.bool o.isSome,.int .u64 ((lI N.pfx N.au:Nat):Int)]∧aD W0 E H C w0 G0 w' F {st with x:=x'}∧d9 ⟨st.x.all,⟨0,0,0⟩⟩ x' 192 0
theorem Uv (h:aD W0 E H C w0 G0 w F st)(hi:lg st.a st.ids [])(key hash:Nat)(h64:hash<18446744073709551616):Calls Tryz.prog 87 #[bM C.mb,.int .u64 (hash:Int),.int .u64 (key:Int)] w fun e w'=>∃v,e= .returned v∧WY W0 E H C w0 G0 F st key hash v w':=by
 have hbd:=h.bounds;have qj:=qd hbd;obtain⟨N,hN,htp⟩:=hi.dir.at_ h64 hbd.1;obtain⟨id,hid⟩:∃id,id=st.a.l.getD (eF hash st.a.d) 0:=⟨_,rfl⟩;rw[←hid]at hN;have HN:=qd hN;have oz:=qd hid;have HC:=qd (h.below ((Below.refl w.heap.size w).alloc (Nat.le_refl _) (.cells #[.int .u64 0,.int .u64 0,.int .u64 0] 76)));have jH:=qd (aj.new w 76 #[.int .u64 0,.int .u64 0,.int .u64 0]);have H9:=qd (show w0.heap.size≤w.heap.size from h.mod.size);have qL:=qd (show w.heap.size∉C.foot F from fun hq=>by have:=h.fH _ hq;omega);clear h hi hbd hN hid htp;unfold bM;go_in;go_upto_region 1 with fail;refine bU (F:=fun v=>aD W0 E H C w0 G0 v F st∧aj v w.heap.size 76 #[.int .u64 0,.int .u64 0,.int .u64 0]) ⟨HC.out,jH.out⟩ ?_;clear HC jH;rintro w1 ⟨hC,hB⟩;obtain⟨bx,hbx⟩:∃bx,bx=w.heap.size:=⟨_,rfl⟩;rw[←hbx]at qL H9 hB⊢;have hne:bx≠C.mb:=fun e=>qL.out (bg.2 (.inl e));have nM:=qd hne;have HC:=qd hC;have jH:=qd hB;have ng:=qd (qg hC.again);clear hC hB hbx hne;go_wp2_with fail;refine ng.out.mono ?_;rintro y w2 ⟨rfl,h2⟩;replace jH:=qd (jH.out.mod h2.mod qL.out);replace HC:=qd (HC.out.chain h2);clear h2 ng;have pJ:=qd (xH HC.out hash id h64 oz.out.symm (bN HN.out));unfold bM aP at pJ;go_wp2_with fail;refine pJ.out.mono ?_;rintro y w3 ⟨rfl,hb⟩;replace HC:=qd (HC.out.below hb);replace jH:=qB hb jH;clear hb pJ;go_wp2_with fail;refine(lu (some ⟨C.mb,3,none⟩) w3).mono ?_;rintro y w4 ⟨rfl,hb⟩;replace HC:=qd (HC.out.below hb);replace jH:=qB hb jH;clear hb
 obtain⟨Fi,n1,n2,n3,n4,n5,n6⟩:=HC.out.node HN.out;have mP:=qd (Zu key hash n1 n2 HC.out.aB.met HC.out.aB.env HC.out.aB.uw n3);have KU:=qd (show N.pfx<2^N.au∧N.au≤16 from⟨n2.pfx,by have:=n2.deep;omega⟩);clear n1 n2 n3 n4 n5 n6;unfold aP at mP;unfold kH aR at mP;go_wp2_with fail;refine mP.out.mono ?_;rintro y w5 ⟨o,x5,rfl,ho,q3,q4,q5⟩;have HO:=qd ho;have qK:=qd q4;replace HC:=qd (HC.out.met q3 q5);replace jH:=qd (jH.out.mod q5 (fun hq=>nM.out (List.mem_singleton.1 hq)));clear ho q3 q4 q5 mP;obtain⟨e0,he0⟩:∃e0:av,e0=o.getD ⟨0,0,0⟩:=⟨_,rfl⟩;obtain⟨bs,hbs⟩:∃bs,bs=o.isSome:=⟨_,rfl⟩;rw[←he0,←hbs];have LB:=qd he0;have HB0:=qd hbs;clear he0 hbs;have b:=jH.out.c3;have g:=jH.out.f3;have hnew:=((jH.out.ak 0 (.int .u64 (e0.key:Int))).ak 1 (.int .u64 (e0.val:Int))).ak 2 (.int .u64 (e0.hash:Int));have hm:=(((Mod.refl [bx] w5).sl 0 (.int .u64 (e0.key:Int))).sl 1 (.int .u64 (e0.val:Int))).sl 2 (.int .u64 (e0.hash:Int));simp only[pt]at hnew;have jS:=qd hnew;have WZ:=qd hm;clear hnew hm;go_upto_region 4 with fail;refine bU (F:=fun v=>aj v bx 76 #[.int .u64 (e0.key:Int),.int .u64 (e0.val:Int),.int .u64 (e0.hash:Int)]∧Mod [bx] w5 v) ⟨jS.out,WZ.out⟩ ?_;clear jS WZ;rintro w6 ⟨jI,mY⟩;replace HC:=qd (HC.out.aside mY qL.out H9.out);replace jH:=qd jI;clear jI mY b g;obtain⟨Fi,n1,n2,n3,n4,n5,n6⟩:=HC.out.node HN.out;have nJ:=qd (Lp (HC.out.below (Below.refl w6.heap.size w6).drew|>.node HN.out|>.choose_spec|>.1));clear n1 n2 n3 n4 n5 n6;obtain⟨pf,hpf⟩:∃pf,pf=N.pfx:=⟨_,rfl⟩
 obtain⟨dp,hdp⟩:∃dp,dp=N.au:=⟨_,rfl⟩;rw[←hpf,←hdp]at nJ;have hpw:=KU.out;rw[←hpf,←hdp]at hpw;obtain⟨hpl,hdl⟩:=hpw;have WQ:=qd hpf;have DJ:=qd hdp;unfold aP at nJ;clear hpf hdp KU;have b:=jH.out.c3;refine rT (fun(w':World)=>w'.cell? ⟨bx,0,none⟩=some (.int .u64 (e0.key:Int))∧w'.cell? ⟨bx,1,none⟩=some (.int .u64 (e0.val:Int))∧w'.cell? ⟨bx,2,none⟩=some (.int .u64 (e0.hash:Int))) [] ?_;have hHeld:=(⟨b.1,b.2.1,b.2.2⟩:_∧_∧_);refine vT 0 rfl ?_;refine vW 1 rfl ?_;refine vW 2 rfl ?_;refine nT 3 rfl fun K hK=> ?_;go_simp;refine(nJ.out).mono ?_;rintro y w7 ⟨rfl,hd7⟩;replace HC:=qd (HC.out.below ((Below.refl w6.heap.size w6).drew.drew));replace jH:=qd jH.out.drew.drew;rw[hd7]at HC jH;clear hd7 nJ b;have b:=jH.out.c3;go_wp2_with fail;have hHeld:=(⟨b.1,b.2.1,b.2.2⟩:_∧_∧_);refine kO hK ?_;clear hK K;refine vW 4 rfl ?_;refine vW 5 rfl ?_;refine nT 6 rfl fun K hK=> ?_;go_simp;refine(SN pf dp hdl hpl w7).mono ?_;rintro y w8 ⟨rfl,rfl⟩;obtain⟨hg,hhg⟩:∃hg,hg=lI pf dp:=⟨_,rfl⟩;rw[←hhg];have HHg:=qd hhg;clear hhg;go_wp2_with fail;have hHeld:=(⟨b.1,b.2.1,b.2.2⟩:_∧_∧_);refine kO hK ?_;clear hK K;refine vW 7 rfl ?_;refine vW 8 rfl ?_;refine nT 9 rfl fun K hK=> ?_;go_simp;refine(YW (hg:Int) w7).mono ?_;rintro y w9 ⟨rfl,rfl⟩;go_wp2_with fail;have hHeld:=(⟨b.1,b.2.1,b.2.2⟩:_∧_∧_);refine kO hK ?_;clear hK K;refine nT 10 rfl fun K hK=> ?_;have g:=jH.out.f3;have hnew:=((jH.out.ak 0 (.int .u64 (e0.key:Int))).ak 1 (.int .u64 (e0.val:Int))).ak 2 (.int .u64 (e0.hash:Int))
 have hm:=(((Mod.refl [bx] w7).sl 0 (.int .u64 (e0.key:Int))).sl 1 (.int .u64 (e0.val:Int))).sl 2 (.int .u64 (e0.hash:Int));simp only[pt]at hnew;have jS:=qd hnew;have WZ:=qd hm;clear hnew hm;go_simp;refine bU (F:=fun v=>aj v bx 76 #[.int .u64 (e0.key:Int),.int .u64 (e0.val:Int),.int .u64 (e0.hash:Int)]∧Mod [bx] w7 v) ⟨jS.out,WZ.out⟩ ?_;clear jS WZ b g;rintro w10 ⟨jI,mY⟩;replace HC:=qd (HC.out.aside mY qL.out H9.out);replace jH:=qd jI;clear jI mY;have b:=jH.out.c3;have hHeld:=(⟨b.1,b.2.1,b.2.2⟩:_∧_∧_);refine kO hK ?_;clear hK K;refine vW 11 rfl ?_;refine vW 12 rfl ?_;refine aY (by kernel_rfl) ?_ _;go_wp2;refine bodyPost_ret (v:= .tuple #[.agg #[.int .u64 (e0.key:Int),.int .u64 (e0.val:Int),.int .u64 (e0.hash:Int)],.bool bs,.int .u64 (hg:Int)]) (by simp[results,Tryz.results87,go_sem,b.1,b.2.1,b.2.2]) rfl ?_;have hfin:WY W0 E H C w0 G0 F st key hash (.tuple #[.agg #[.int .u64 (e0.key:Int),.int .u64 (e0.val:Int),.int .u64 (e0.hash:Int)],.bool bs,.int .u64 (hg:Int)]) w10:=⟨id,N,o,x5,HN.out,oz.out,HO.out,by rw[LB.out,HB0.out,HHg.out,WQ.out,DJ.out];rfl,HC.out,qK.out⟩
 first|exact⟨_,rfl,hfin⟩|exact hfin|exact⟨rfl,hfin⟩
end
end Go.Proofs.YtbfpfgfgfjhpfaaGreatDoor
