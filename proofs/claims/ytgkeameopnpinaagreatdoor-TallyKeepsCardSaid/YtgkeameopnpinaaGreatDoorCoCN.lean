/- A core's maintain by its contract. -/
import Derived.Test.YtgkeameopnpinaaGreatDoorCoCM
import Derived.Test.YtgkeameopnpinaaGreatDoorCoO
import Derived.Test.YtgkeameopnpinaaGreatDoorLaneP
namespace Go.Proofs.YtgkeameopnpinaaGreatDoor
set_option maxRecDepth 100000
set_option maxHeartbeats 8000000
open Go.RowKit bY
section
variable {W0 : World} {E : Nat → Addr} {H : Nat → Nat} {C : iq} {w0 : World} {G0 : List Nat} {w w' : World} {F : List Nat} {st : kM}
theorem aA.double (h:aA W0 E H C w0 G0 w F st){cb fb fe:Nat}{w1:World}(hc:st.a.cop=none)(hC:iV w1 cb C.A.db C.A.eb fb fe st.a.d 0 st.a.l (List.replicate (2^(st.a.d+1)) 0))(h1:w.heap.size≤cb)(h2:w.heap.size≤fb)(h3:w.heap.size≤fe)(hb:Below w.heap.size w w1)(yu:32∉st.ids):
  ∃F',aA W0 E H {C with A:={C.A with cb:=cb,fb:=fb,fe:=fe},v:=C.v} w0 G0 (w1.setCell ⟨C.mb,13,none⟩ (pQ cb)) F' {st with a:={st.a with cop:=some (0,List.replicate (2^(st.a.d+1)) 0)}}:=by
 obtain⟨Fs,hF,hp⟩:=h.aC.pool;have hml:C.mb<w.heap.size:=h.aC.met.lt;have hm:Mod [C.mb] w (w1.setCell ⟨C.mb,13,none⟩ (pQ cb)):=(Mod.of_below hb [C.mb]).ak (.inl (by simp)) _ _;have hmb:∀q∈F,q∉[C.mb]:=fun q hq e=>h.hp.mb h.aC.pool (by show C.mb∈F;rw[←List.mem_singleton.1 e];exact hq);have hlts:=h.fA;have wB:∀q∈F,q<w.heap.size:=fun q hq=>hlts q (aX.2 (.inr (.inr (.inl hq))));have xG:∀i,i<st.a.Ns.length→∀q∈Fs i,q∈F:=fun i hi q hq=>hF▸aP.2 (.inl ⟨i,hi,hq⟩);have uj:∀q∈C.A.dS st.a.cop,q∈F:=fun q hq=>hF▸aP.2 (.inr hq)
 have hC2:iV (w1.setCell ⟨C.mb,13,none⟩ (pQ cb)) cb C.A.db C.A.eb fb fe st.a.d 0 st.a.l (List.replicate (2^(st.a.d+1)) 0):=
  hC.mod (S:=[C.mb]) ((Mod.refl _ w1).ak (.inl (by simp)) _ _) (fun q hq dH=>by
   have:=List.mem_singleton.1 dH;simp at hq;rcases hq with e|e|e|e|e
   ·omega
   ·exact hmb q (uj q (by unfold dw.dS;simp[e])) (by simp[this])
   ·exact hmb q (uj q (by unfold dw.dS;simp[e])) (by simp[this])
   ·omega
   ·omega)
 have hdf:∀q,q∈({C.A with cb:=cb,fb:=fb,fe:=fe}:dw).dS (some (0,List.replicate (2^(st.a.d+1)) 0))↔q∈C.A.dS st.a.cop∨q=cb∨q=fb∨q=fe:=fun q=>by
  unfold dw.dS;rw[hc];simp;omega
 have hin:∀q,q∈gJ ({C.A with cb:=cb,fb:=fb,fe:=fe}:dw) Fs {st.a with cop:=some (0,List.replicate (2^(st.a.d+1)) 0)}→q∈F∨w.heap.size≤q:=fun q hq=>by
  rcases aP.1 hq with⟨i,hi,hq2⟩|hq2
  ·exact .inl (xG i hi q hq2)
  ·rcases(hdf q).1 hq2 with e|e|e|e
   ·exact .inl (uj q e)
   ·exact .inr (by omega)
   ·exact .inr (by omega)
   ·exact .inr (by omega)
 have hP:iK W0 C.mb H ({C.A with cb:=cb,fb:=fb,fe:=fe}:dw) (w1.setCell ⟨C.mb,13,none⟩ (pQ cb)) Fs {st.a with cop:=some (0,List.replicate (2^(st.a.d+1)) 0)}:=
  ⟨fun i N hN=>⟨(hp.kL i N hN).1.mod hm (fun q hq=>hmb q (xG i (bC hN) q hq)),(hp.kL i N hN).2⟩,hC2.old,fun next lf he=>by
   have:=Option.some.inj he;cases this
   exact hC2,hp.sep,fun i hi q hq hq2=>by
   have hq':=xG i hi q hq;rcases(hdf q).1 hq2 with e|e|e|e
   ·exact hp.uF i hi q hq e
   ·have:=wB q hq';omega
   ·have:=wB q hq';omega
   ·have:=wB q hq';omega,fun q hq=>by
   rcases hin q hq with e|e
   ·exact hp.low q (hF▸e)
   ·have:=h.aC.env.size;omega,fun hq=>by
   rcases hin _ hq with e|e
   ·exact hmb _ e (by simp)
   ·omega,hp.wD⟩
 refine⟨_,h.upd {C.A with cb:=cb,fb:=fb,fe:=fe} C.v {st with a:={st.a with cop:=some (0,List.replicate (2^(st.a.d+1)) 0)}} hm (fun q hq=>aX.2 (.inl (List.mem_singleton.1 hq))) ((h.aC.aC.mod hm (fun q hq dH=>(h.aC.apart q hq).2.1 (List.mem_singleton.1 dH))).YF (fun id hid=> ?_)) ⟨Fs,rfl,hP⟩ ⟨rfl, ?_⟩ (kZ (st:=st) h hm (fun q hq=> .inl (List.mem_singleton.1 hq))) h.pos hin (fun g hg=>⟨.inl hg,fun hh=>by have:=(h.row.lt g hg).2;omega⟩)⟩
 ·have hne:id≠32:=fun e=>yu (e▸hid);show C.A.val id=({C.A with cb:=cb,fb:=fb,fe:=fe}:dw).val id;unfold dw.val dw.ja;simp only;rw[if_neg hne,if_neg hne];rfl
 ·exact((Met.blk h.aC.met).mod (Mod.of_below hb []) (by simp)).ak 13 _
end
theorem N7 {W0:World}{E:Nat→Addr}{P:MP}{α:Type}{jt:Nat→TypeId}{ja:Nat→Addr}{At:World→List Nat→α→Prop}{can:α→Nat→Prop}{left:α→Nat→Nat}{Stp:α→Nat→α→Prop}(HP:iG W0 E P jt ja At can left Stp)(s:SP)(F:List Nat)(K:Nat)(hK:1≤K∧K≤64)(hk:s.k=(K:Int))(b:Int)(ids:List Nat)(a:α)(x:bI)(own:Nat)(kK:own≤1000)(hval:∀id,s.val id= .iface (jt id) (.pointer (some (ja id))))(hcan:∀id∈ids,can a id∧id≤1000)(w:World)(h:bA W0 E P At s w F w b ids a F x):
  Calls Tryz.prog 137 #[eu s.sb,lT P,nI own] w fun e w'=>∃A cc e1 bQ a1 a2 F' x' b',e= .returned (.slice A (e1++fO left a2 bQ).length cc)∧w'.ownsRow w.heap.size 3 1 (.slice A (e1++fO left a2 bQ).length cc) (e1++fO left a2 bQ).length (dz (e1++fO left a2 bQ))∧ug left Stp ids own (8*K) a a1∧rC left Stp K ids a1 e1 bQ a2∧bA W0 E P At s w F w' b' (gY left a2 bQ) a2 F' x'∧dI x x' 0 (9*K)∧mO P s F' (.slice A (e1++fO left a2 bQ).length cc):=by
 by_cases hin:own∈ids
 ·exact Ho HP s F K hK hk b ids a x own kK hin hval hcan w h
 ·exact F5 HP s F K hK hk b ids a x own kK hin hval hcan w h
def zh (W0:World)(E:Nat→Addr)(H:Nat→Nat)(C:iq)(w0:World)(G0:List Nat)(st:kM)(id:Nat)(w':World):Prop:=
 ∃(A':dw) (v':Value) (F':List Nat) (a':Pool) (aJ:List Nat) (b':Int) (x':bI) (u:Nat),YJ H C.K st.a st.ids id a' aJ∧jE a' aJ []∧a'.ents.Perm st.a.ents∧aA W0 E H {C with A:=A',v:=v'} w0 G0 w' F' {st with a:=a',ids:=aJ,b:=b',x:=x'}∧dI st.x x' 0 u
theorem Uc {l t:Int}{g lo gl:Nat}(h:iY l t g lo gl=0):eG l t g lo gl=false:=by
 unfold iY at h;unfold eG;split at h
 ·next h1=>rw[h1];rfl
 ·split at h
  ·cases h
  ·split at h
   ·cases h
   ·split at h<;>cases h
theorem aa2 {l t:Int}{g lo gl:Nat}(h:eG l t g lo gl=true):gl<5:=by
 unfold eG at h;simp at h;omega
theorem ng {W0:World}{E:Nat→Addr}{H:Nat→Nat}{C:iq}{w0:World}{G0:List Nat}{w:World}{F:List Nat}{st:kM}(h:aA W0 E H C w0 G0 w F st)(id:Nat)(N:Nd)(hN:st.a.Ns[id]?=some N)(hcp:Ra st.a st.ids id):Calls Tryz.prog 97 #[aY C.mb,nI id,aK (C.A.nb id)] w fun e w'=>e= .returned undef∧zh W0 E H C w0 G0 st id w':=by
 have HC:=qd h;obtain⟨c0,c1,c11,c12,c13,c14,c15⟩:=HC.out.cells;have hid:=bC hN;have hbd:=h.bounds
 have kK:id≤1000:=by have:=hbd.2.1;omega
 have h32:id≠32:=by have:=hbd.2.1;omega
 have hO:=hbd.2.2.2 id N hN;obtain⟨Fs,hF,hpo⟩:=h.aC.pool;have BF:=qd (Jm C.A.db C.A.eb st.a.d st.a.l w hpo.dir);obtain⟨hnA,_⟩:=hpo.kL id N hN
 obtain⟨k,MO,hW,hcase⟩:∃(k:Nat) (MO:Bool),(Calls Tryz.prog 130 #[aK (C.A.nb id),nI st.a.d] w fun e w'=>e= .returned (.tuple #[nI k,.bool MO])∧Below w.heap.size w w')∧((N.ph.busy=true∧k=0∧MO=false)∨(N.ph= .idle∧iY N.T.live N.T.bS N.len N.au st.a.d=k∧eG N.T.live N.T.bS N.len N.au st.a.d=MO)):=by
  cases hb:N.ph.busy with
  |true=>
   exact⟨0,false,Kn st.a.d hnA hb,.inl ⟨rfl,rfl,rfl⟩⟩
  |false=>
   exact⟨_,_,Ko st.a.d hnA hO (Pn hb),.inr ⟨Pn hb,rfl,rfl⟩⟩
 have HW:=qd hW;have Ud:=qd hcase;have HO:=qd hO;have HN:=qd hN;have jQ:=qd hcp;have mh:=qd hbd
 have ae7:st.ids.length≤33:=by
  have hh:=Hq st.ids (List.range 33) hcp.nd (fun x hx=>by
   rw[List.mem_range];rcases(hcp.iR x).2 hx with⟨M,h1,_⟩|⟨_,h1,_⟩
   ·have:=bC h1;have h3:=hbd.2.1;omega
   ·omega)
  simpa using hh
 clear h hW hcase hO hN hcp hpo hF hnA hbd hid;unfold iA at BF;unfold aK at HW;unfold aY aK;go_in;go_wp2_with fail;refine BF.out.mono ?_;rintro x w1 ⟨rfl,rfl⟩;go_wp2_with fail;refine HW.out.mono ?_;rintro x w1 ⟨rfl,hb⟩;replace HC:=qd (HC.out.below hb);clear c0 c1 c11 c12 c13 c14 c15 BF HW hb;by_cases hk0:k=0
 focus
  subst hk0
  have hki:¬((0:Nat):Int)≠0:=by omega
  have hdb:MO=false:=by
   rcases Ud.out with⟨_,_,h1⟩|⟨_,h1,h2⟩
   ·exact h1
   ·rw[←h2];exact Uc h1
  subst hdb
  obtain⟨a1,bQ,F1,Ey,YL⟩:∃a1 bQ F1,yx st.a st.ids id a1 bQ∧(bQ=st.ids)∧aA W0 E H C w0 G0 w1 F1 {st with a:=a1,ids:=bQ}:=by
   rcases Ud.out with⟨h1,_,_⟩|⟨h1,h2,h3⟩
   ·exact⟨st.a,st.ids,F,.busy HN.out h1,rfl,HC.out⟩
   ·obtain⟨Fi,n1,n2,n3,n4,n5,n6⟩:=HC.out.node HN.out;obtain⟨F2,hf2⟩:=n6 w1 Fi [] {N with sl:=0} st.x n1 (Zv n2 h1 h2) (fun q hq=> .inl hq) HC.out.aC.met (Mod.refl _ _) (by simp);exact⟨_,st.ids,F2,.none HN.out h1 h2,rfl,hf2⟩
  obtain⟨YM,YL⟩:=YL;obtain⟨hsv,hd1,hl1,hc1,he1⟩:=Po jQ.out (fun M hM=>by rw[HN.out]at hM;cases hM;exact HO.out) Ey;have xA:=qd Ey;obtain⟨a2,aN,A1,v1,x2,b2,ha2⟩:∃(a2:Pool) (aN:List Nat) (A1:dw) (v1:Value) (x2:bI) (b2:Int),a2=a1∧aN=bQ∧A1=C.A∧v1=C.v∧x2=st.x∧b2=st.b:=⟨_,_,_,_,_,_,rfl,rfl,rfl,rfl,rfl,rfl⟩;obtain⟨g1,g2,g3,g4,g5,g6⟩:=ha2;have rW:=qd (show Ce (MN st.a id) a1 bQ a2 aN from by rw[g1,g2];exact .not);have xH:=qd (show Cg a2 aN id from by rw[g1,g2];exact hsv);have pX:=qd (show a2.ents=st.a.ents from by rw[g1];exact he1);have ni:=qd (show dI st.x x2 0 0 from by rw[g5];exact dI.refl _)
  have Rb:aN.length≤40:=by rw[g2,YM];omega
  obtain⟨V,hV⟩:∃V,V=w1:=⟨_,rfl⟩;have wF:=qd (show aA W0 E H {C with A:=A1,v:=v1} w0 G0 V F1 {st with a:=a2,ids:=aN,b:=b2,x:=x2} from by rw[g1,g2,g3,g4,g5,g6,hV];exact YL);rw[←hV];clear HC YL hsv Ey hd1 hl1 hc1 he1 g1 g2 g3 g4 g5 g6 YM hV Ud jQ mh HO;have HC:=wF;clear wF;go_upto_region 7 with fail
 rotate_left
 focus
  have hki:¬(k:Int)=0:=by omega
  have hcs:N.ph= .idle∧iY N.T.live N.T.bS N.len N.au st.a.d=k∧eG N.T.live N.T.bS N.len N.au st.a.d=MO:=by
   rcases Ud.out with⟨_,h1,_⟩|h1
   ·exact absurd h1 hk0
   ·exact h1
  have Ue:=qd hcs;have Ey:=yx.start (ids:=st.ids) HN.out hcs.1 hcs.2.1 hk0;obtain⟨hsv,hd1,hl1,hc1,he1⟩:=Po jQ.out (fun M hM=>by rw[HN.out]at hM;cases hM;exact HO.out) Ey;have xA:=qd Ey;have xH:=qd hsv;have Hr:=qd he1;obtain⟨Fi,n1,n2,n3,n4,n5,n6⟩:=HC.out.node HN.out;have kJ:=qd (WV st.a.d k mh.out.1 n1 n2 hcs.1 hcs.2.1 hk0);have HX:=qd n6;have Pk:=qd n3;have Gf:=qd n1.Kz
  have aa3:id∉st.ids:=fun hh=>by
   have h1:=(jQ.out.iR id).2 hh;rw[Ew HN.out,hcs.1]at h1;cases h1
  have YN:=qd aa3;have HOs:=qd (LV n2 hcs.1 mh.out.1 hcs.2.1 hk0).1;clear hcs Ey hsv hd1 hl1 hc1 he1 n1 n2 n3 n4 n5 n6 aa3 Ud;unfold aK at kJ;go_wp2_with fail;refine kJ.out.mono ?_;rintro x w2 ⟨rfl,F',q1,q2,q3⟩;obtain⟨F2,hf2⟩:=HX.out w2 F' _ _ st.x q1 HOs.out q2 (HC.out.aC.met.mod q3 (fun hq=>Pk.out (by rw[show C.mb=C.A.nb id from List.mem_singleton.1 hq];exact Gf.out))) q3 (fun q hq=> .inr (by rw[List.mem_singleton.1 hq];exact Gf.out));have wF:=qd hf2;clear hf2 q1 q2 q3 HC kJ HX Pk Gf HOs;go_wp2_with fail;refine(jc w2).mono ?_;rintro x w3 ⟨rfl,rfl⟩;have MQ:=qd (MG wF.out id 114 ⟨C.A.nb id,0,none⟩ (by unfold dw.val dw.jt dw.ja;rw[if_neg h32,if_neg h32]) YN.out kK (by show st.ids.length<40;omega));unfold aY at MQ;go_wp2_with fail;refine MQ.out.mono ?_;rintro x w4 ⟨rfl,h4⟩;have nD:=qd h4;clear h4 wF MQ YN;cases hdv:MO
  case' false=>
   subst hdv;obtain⟨c0,c1,c11,c12,c13,c14,c15⟩:=nD.out.cells;go_upto_region 7 with fail;clear c0 c1 c11 c12 c13 c14 c15;obtain⟨a2,aN,A1,v1,x2,b2,F1,V,ha2⟩:∃(a2:Pool) (aN:List Nat) (A1:dw) (v1:Value) (x2:bI) (b2:Int) (F1:List Nat) (V:World),a2={st.a with Ns:=st.a.Ns.set id (N.start k)}∧aN=st.ids++[id]∧A1=C.A∧v1=C.v∧x2=st.x.add (cU 1) 1∧b2=st.b∧F1=F2∧V=w4:=⟨_,_,_,_,_,_,_,_,rfl,rfl,rfl,rfl,rfl,rfl,rfl,rfl⟩;obtain⟨g1,g2,g3,g4,g5,g6,g7,g8⟩:=ha2;obtain⟨a1,bQ,hg⟩:∃(a1:Pool) (bQ:List Nat),a1=a2∧bQ=aN:=⟨_,_,rfl,rfl⟩;obtain⟨g9,g10⟩:=hg;have rW:=qd (show Ce (MN st.a id) a1 bQ a2 aN from by rw[g9,g10];exact .not);have Ch:=qd (show yx st.a st.ids id a1 bQ from by rw[g9,g10,g1,g2];exact xA.out);have Ci:=qd (show Cg a2 aN id from by rw[g1,g2];exact xH.out);have pX:=qd (show a2.ents=st.a.ents from by rw[g1];exact Hr.out);have ni:=qd (show dI st.x x2 0 1 from by rw[g5];exact rD _ 1)
   have Rb:aN.length≤40:=by rw[g2,List.length_append,List.length_singleton];omega
   have iw:=qd (show aA W0 E H {C with A:=A1,v:=v1} w0 G0 V F1 {st with a:=a2,ids:=aN,b:=b2,x:=x2} from by rw[g1,g2,g3,g4,g5,g6,g7,g8];exact nD.out);rw[←g8];clear nD xA xH Hr g1 g2 g3 g4 g5 g6 g7 g8 g9 g10 Ue jQ mh HO;have HC:=iw;have xA:=Ch;have xH:=Ci;clear iw Ch Ci
  case' true=>
   cases Eu:st.a.cop
   case' some cc=>
    subst hdv;obtain⟨c0,c1,c11,c12,c13,c14,c15⟩:=nD.out.cells
    have hcv:kN C.A st.a.cop=pQ C.A.cb:=by unfold kN;rw[Eu];rfl
    have Xm:w4.cell? ⟨C.mb,13,none⟩=some (pQ C.A.cb):=by rw[←hcv];exact c13
    clear c13 hcv;go_upto_region 7 with fail;clear c0 c1 c11 c12 Xm c14 c15;obtain⟨a2,aN,A1,v1,x2,b2,F1,V,ha2⟩:∃(a2:Pool) (aN:List Nat) (A1:dw) (v1:Value) (x2:bI) (b2:Int) (F1:List Nat) (V:World),a2={st.a with Ns:=st.a.Ns.set id (N.start k)}∧aN=st.ids++[id]∧A1=C.A∧v1=C.v∧x2=st.x.add (cU 1) 1∧b2=st.b∧F1=F2∧V=w4:=⟨_,_,_,_,_,_,_,_,rfl,rfl,rfl,rfl,rfl,rfl,rfl,rfl⟩;obtain⟨g1,g2,g3,g4,g5,g6,g7,g8⟩:=ha2;obtain⟨a1,bQ,hg⟩:∃(a1:Pool) (bQ:List Nat),a1=a2∧bQ=aN:=⟨_,_,rfl,rfl⟩;obtain⟨g9,g10⟩:=hg;have rW:=qd (show Ce (MN st.a id) a1 bQ a2 aN from by rw[g9,g10];exact .not);have Ch:=qd (show yx st.a st.ids id a1 bQ from by rw[g9,g10,g1,g2];exact xA.out);have Ci:=qd (show Cg a2 aN id from by rw[g1,g2];exact xH.out);have pX:=qd (show a2.ents=st.a.ents from by rw[g1];exact Hr.out);have ni:=qd (show dI st.x x2 0 1 from by rw[g5];exact rD _ 1)
    have Rb:aN.length≤40:=by rw[g2,List.length_append,List.length_singleton];omega
    have iw:=qd (show aA W0 E H {C with A:=A1,v:=v1} w0 G0 V F1 {st with a:=a2,ids:=aN,b:=b2,x:=x2} from by rw[g1,g2,g3,g4,g5,g6,g7,g8];exact nD.out);rw[←g8];clear nD xA xH Hr g1 g2 g3 g4 g5 g6 g7 g8 g9 g10 Ue jQ mh HO;have HC:=iw;have xA:=Ch;have xH:=Ci;clear iw Ch Ci
   case' none=>
    subst hdv;obtain⟨c0,c1,c11,c12,c13,c14,c15⟩:=nD.out.cells
    have hcv:kN C.A st.a.cop= .pointer none:=by unfold kN;rw[Eu];rfl
    have Xm:w4.cell? ⟨C.mb,13,none⟩=some (.pointer none):=by rw[←hcv];exact c13
    have hd5:st.a.d<5:=aa2 Ue.out.2.2;have zf:=qd Eu;obtain⟨Fs4,hF4,hp4⟩:=nD.out.aC.pool;have mD:=qd (NT C.A.db C.A.eb st.a.d st.a.l hd5 w4 hp4.dir)
    have hn32:32∉st.ids++[id]:=fun hh=>by
     rcases List.mem_append.1 hh with h1|h1
     ·rcases(jQ.out.iR 32).2 h1 with⟨M,h2,_⟩|⟨_,_,c,h2⟩
      ·have:=bC h2;have h3:=mh.out.2.1;omega
      ·rw[Eu]at h2;cases h2
     ·exact h32 (List.mem_singleton.1 h1).symm
    have Xn:=qd hn32;have HD5:=qd hd5;clear c13 hcv hF4 hp4 hn32 Eu;unfold iA oK at mD;go_wp2_with fail;refine mD.out.mono ?_;rintro x w5 ⟨cb,fb,fe,rfl,Cc,⟨z1,z2,z3⟩,hb5⟩;have wG:=qd Cc;have JD:=qd hb5;have hB:=(Met.blk nD.out.aC.met).mod (Mod.of_below hb5 []) (by simp);have e13:w5.cell? ⟨C.mb,13,none⟩=some (kN C.A st.a.cop):=hB.cell 13;have g13:w5.frozen? ⟨C.mb,13,none⟩=false:=hB.frozen 13;clear c0 c1 c11 c12 Xm c14 c15 hB Cc hb5 mD;go_wp2_with fail;refine(Wl (some ⟨cb,0,none⟩) w5).mono ?_;rintro x w6 ⟨rfl,rfl⟩;obtain⟨F6,um⟩:=nD.out.double zf.out wG.out z1 z2 z3 JD.out Xn.out;go_upto_region 6 with fail;refine dA (F:=fun v=>aA W0 E H {C with A:={C.A with cb:=cb,fb:=fb,fe:=fe},v:=C.v} w0 G0 v F6 {st with a:={st.a with Ns:=st.a.Ns.set id (N.start k),cop:=some (0,List.replicate (2^(st.a.d+1)) 0)},ids:=st.ids++[id],x:=st.x.add (cU 1) 1}) um ?_;rintro w7 hC7;have Ua:=qd hC7;have k13:w7.cell? ⟨C.mb,13,none⟩=some (pQ cb):=Ua.out.cells.2.2.2.2.1;have MQ:=qd (MG Ua.out 32 124 ⟨cb,0,none⟩ (by unfold dw.val dw.jt dw.ja;rw[if_pos rfl,if_pos rfl]) Xn.out (by omega) (by show(st.ids++[id]).length<40;rw[List.length_append,List.length_singleton];omega));unfold aY at MQ;clear um hC7 e13 g13 nD wG JD z1 z2 z3;go_wp2_with fail;refine MQ.out.mono ?_;rintro x w8 ⟨rfl,h8⟩;have YH:=qd h8;clear h8 MQ Ua k13
    obtain⟨a2,aN,A1,v1,x2,b2,F1,V,ha2⟩:∃(a2:Pool) (aN:List Nat) (A1:dw) (v1:Value) (x2:bI) (b2:Int) (F1:List Nat) (V:World),a2={st.a with Ns:=st.a.Ns.set id (N.start k),cop:=some (0,List.replicate (2^(st.a.d+1)) 0)}∧aN=st.ids++[id]++[32]∧A1={C.A with cb:=cb,fb:=fb,fe:=fe}∧v1=C.v∧x2=(st.x.add (cU 1) 1).add (cU 1) 1∧b2=st.b∧F1=F6∧V=w8:=⟨_,_,_,_,_,_,_,_,rfl,rfl,rfl,rfl,rfl,rfl,rfl,rfl⟩;obtain⟨g1,g2,g3,g4,g5,g6,g7,g8⟩:=ha2;obtain⟨a1,bQ,hg⟩:∃(a1:Pool) (bQ:List Nat),a1={st.a with Ns:=st.a.Ns.set id (N.start k)}∧bQ=st.ids++[id]:=⟨_,_,rfl,rfl⟩;obtain⟨g9,g10⟩:=hg
    have hdb:Ce (MN st.a id) a1 bQ a2 aN:=by rw[g9,g10,g1,g2];exact .yes ⟨N,HN.out,Ue.out.2.2⟩ zf.out HD5.out
    have rW:=qd hdb;have Ch:=qd (show yx st.a st.ids id a1 bQ from by rw[g9,g10];exact xA.out);have Ci:=qd (ZK (show Cg a1 bQ id from by rw[g9,g10];exact xH.out) (by rw[g9];simpa using mh.out.2.1) hdb).1;have pX:=qd (show a2.ents=st.a.ents from by rw[g1];exact Hr.out);have ni:=qd (show dI st.x x2 (0+0) (1+1)from by rw[g5];exact(rD _ 1).trans (rD _ 1))
    have Rb:aN.length≤40:=by rw[g2,List.length_append,List.length_append,List.length_singleton,List.length_singleton];omega
    have iw:=qd (show aA W0 E H {C with A:=A1,v:=v1} w0 G0 V F1 {st with a:=a2,ids:=aN,b:=b2,x:=x2} from by rw[g1,g2,g3,g4,g5,g6,g7,g8];exact YH.out);rw[←g8];clear YH xA xH Hr g1 g2 g3 g4 g5 g6 g7 g8 g9 g10 hdb Ue jQ mh HO zf HD5 Xn;have HC:=iw;have xA:=Ch;have xH:=Ci;clear iw Ch Ci;go_upto_region 7 with fail
 all_goals
  have DR:=qd (HC.out.below (Below.refl V.heap.size V).drew);have e14:V.cell? ⟨C.mb,14,none⟩=some (pQ C.sb):=HC.out.cells.2.2.2.2.2.1;have hbd:=DR.out.bounds
  have Yd:=qd (N7 DR.out.hp ({C with A:=A1,v:=v1}:iq).s F1 C.K DR.out.kk rfl b2 aN a2 x2 id kK (fun _=>rfl) (fun j hj=>⟨(xH.out.pre.iR j).2 hj,by
   rcases(xH.out.pre.iR j).2 hj with⟨M,h1,_⟩|⟨_,h1,_⟩
   ·have:=bC h1;have h3:=hbd.2.1;simp only at h3;omega
   ·omega⟩) (World.drew V) DR.out.aC)
  have HS2:=qd (show Calls Tryz.prog 137 #[pQ C.sb,.pointer (some ⟨C.mb,3,none⟩),nI id] (World.drew V) _ from Yd.out);clear Yd HC hbd;go_upto_region 7 with fail;refine rT (fun(w':World)=>w'.cell? ⟨C.mb,14,none⟩=some (pQ C.sb)) [8] ?_;have hHeld:=e14;refine vW 0 rfl ?_;refine vW 1 rfl ?_;refine vW 2 rfl ?_;refine vT 3 rfl ?_;refine vW 4 rfl ?_;refine vW 5 rfl ?_;refine vW 6 rfl ?_;refine vW 7 rfl ?_;refine vW 10 rfl ?_;refine nT 8 rfl fun K hK=> ?_;go_simp;refine(HS2.out).mono ?_;rintro y V2 ⟨A9,c9,e1,mP,a3,a4,F4,x4,b4,rfl,hrow,hown,hoth,hs,hco,hra⟩;obtain⟨aa4,Rc⟩:=ZL DR.out.kk.1 xH.out hown hoth;have iw:=qd (DR.out.served hs Rc.len Rc.cop);have y9:=qd aa4;have fV:=qd hown;have DL:=qd hoth;have wI:=qd (show a4.ents.Perm st.a.ents from by rw[←pX.out];exact Rc.ents);have aa5:=qd (ni.out.trans hco);obtain⟨pend,Rf⟩:∃p,p=e1++fO Pool.left a4 mP:=⟨_,rfl⟩;rw[←Rf]at hrow hra⊢;have HPe:=qd Rf;have Gc:=qd hrow
  have Pp:=qd (show∀g,(Value.slice A9 pend.length c9).ownBlock=some g→g∉({C with A:=A1,v:=v1}:iq).foot F4 from fun g hg hq=>by
   have hl:=(hrow.lt g hg);rcases aX.1 hq with h1|h1|h1|h1
   ·exact hra g hg (by rw[h1];exact List.mem_cons_self ..)
   ·exact hra g hg (List.mem_cons_of_mem _ (List.mem_append_left _ h1))
   ·exact hra g hg (List.mem_cons_of_mem _ (List.mem_append_right _ h1))
   ·have:=(DR.out.row.lt g h1).2;omega)
  obtain⟨bs,hbs⟩:∃bs,bs=(World.drew V).heap.size:=⟨_,rfl⟩;rw[←hbs]at Gc;clear hrow hown hoth hs hco hra aa4 Rc Rf HS2 DR xH pX ni hbs;go_wp2_with fail;refine kO hK ?_;clear hK K;refine vL 9 rfl ?_;refine aQ (by kernel_rfl) ?_ _
  have hpl:pend.length≤40:=by
   have h1:=qz DL.out;have h2:=congrArg List.length h1;rw[List.length_append]at h2;have h3:(fO Pool.left a4 mP).length≤mP.length:=List.length_filter_le _ _;rw[HPe.out,List.length_append];have h4:=Rb;omega
  clear e14;go_wp2;go_loopw [9,67] (fun _ v67 wr=>∃(i:Nat) (A':dw) (v':Value) (F':List Nat) (a':Pool) (x':bI) (u':Nat),i≤pend.length∧v67=nI i∧Hid (aA W0 E H {C with A:=A',v:=v'} w0 G0 wr F' {st with a:=a',ids:=gY Pool.left a4 mP,b:=b4,x:=x'})∧Hid (jE a' (gY Pool.left a4 mP) (pend.drop i))∧Hid (∀c,wH H a' (pend.drop i) c→wH H a4 pend c)∧Hid (a'.ents.Perm st.a.ents)∧Hid (dI st.x x' 0 u')∧Hid (wr.ownsRow bs 3 1 (.slice A9 pend.length c9) pend.length (dz pend))∧Hid (∀g,(Value.slice A9 pend.length c9).ownBlock=some g→g∉({C with A:=A',v:=v'}:iq).foot F')) (fun _ v67 _=>pend.length-(intOf v67).toNat)
  case atStart=>exact⟨0,A1,v1,F4,a4,x4,_,by omega,rfl,iw,qd (by rw[List.drop_zero,HPe.out];exact y9.out),qd (fun _ h=>h),wI,aa5,Gc,Pp⟩
  case round=>
   clear iw y9 wI aa5 Gc Pp;obtain⟨i,A',v',F',a',x',u',hi,rfl,HC,y9,HEa,wI,ni,Gc,Pp⟩:=hrel;by_cases hlt:i<pend.length
   ·have hlt':(i:Int)<(pend.length:Int):=by omega
    have hi0:(0:Int)≤(i:Int):=by omega
    have aaV:(i:Int)≤41:=by omega
    obtain⟨j,hj⟩:∃j,pend[i]?=some j:=⟨_,List.getElem?_eq_getElem hlt⟩;obtain⟨g,hA9,hge,hgl,hce,_⟩:=lQ Gc.out hj;have JC:=qd (drop_cons hj);have HU:=qd (Cb HC.out.again 1 (Nat.le_refl _));have HA9:=qd hA9;subst hA9;clear hj;go_wp2_with fail;refine HU.out.mono ?_;rintro y w1 ⟨rfl,h1⟩;have HR1:=qd (jl Gc.out h1.mod (fun k hk=>Pp.out k hk));have Xo:=qd (show∀g',(Value.slice (some ⟨g,0,none⟩) pend.length c9).ownBlock=some g'→g'∉({C with A:=A',v:=v'}:iq).foot F' from Pp.out);have uM:=qd (HC.out.chain h1);have Er:=qd (ni.out.trans (rD _ 1))
    have hin:jE a' (gY Pool.left a4 mP) (j::pend.drop (i+1)):=by rw[←JC.out];exact y9.out
    have hbd:=uM.out.bounds;have bM:=qd (Xl uM.out.again j (pend.drop (i+1)) hin);have aa6:=qd (fun(b:Pool) (hb:zS H a' j b)=>Xk hin hb hbd.1 hbd.2.1 hbd.2.2.1);clear h1 hin HC Gc Pp HU y9 hce ni hbd;unfold aY at bM;go_wp2_with fail;refine bM.out.mono ?_;rintro y w2 ⟨rfl,A2,v2,F2,b2',x2',u2',hE,hC2,BX⟩;obtain⟨k1,k2,k3,k4,k5⟩:=aa6.out b2' hE;have wF:=qd (uM.out.chain hC2);have HR2:=qd (jl HR1.out hC2.mod (fun k hk=>Xo.out k hk))
    have adf:=qd (show∀g',(Value.slice (some ⟨g,0,none⟩) pend.length c9).ownBlock=some g'→g'∉({C with A:=A2,v:=v2}:iq).foot F2 from fun g' hg' hq=>by
     rcases hC2.sub g' hq with h1|h1
     ·exact Xo.out g' hg' h1
     ·have:=(HR1.out.lt g' hg').2;omega)
    have HK1:=qd k1;have HK4:=qd (k4.trans wI.out);have adg:=qd (fun c (hc:wH H b2' (pend.drop (i+1)) c)=>HEa.out c (by rw[JC.out];exact .cons hE hc));have Ms:=qd (Er.out.trans BX);clear hE hC2 BX k1 k2 k3 k4 k5 uM HR1 Xo bM aa6 HEa wI Er;go_wp2;go_roundw
    case rel=>exact⟨i+1,A2,v2,F2,b2',x2',_,by omega,by go_num,wF,HK1,adg,HK4,Ms,HR2,adf⟩
    case measure=>simp[intOf];omega
   ·obtain rfl:i=pend.length:=by omega
    have hlt':¬(pend.length:Int)<(pend.length:Int):=by omega
    have hIn:=y9.out;have hEa:=HEa.out;rw[List.drop_length]at hIn hEa;have HEx:=qd (show zh W0 E H C w0 G0 st id wr from⟨A',v',F',a',_,b4,x',u',⟨a1,bQ,a2,aN,a3,e1,mP,a4,xA.out,rW.out,fV.out,DL.out,by rw[←HPe.out];exact hEa a' (.nil a'),rfl⟩,hIn,wI.out,HC.out,ni.out⟩);clear hIn hEa;go_wp2;go_end0
    first|exact⟨rfl,HEx.out⟩|exact HEx.out
end Go.Proofs.YtgkeameopnpinaaGreatDoor
