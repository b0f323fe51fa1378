/- A core's maintain by its contract. -/
import Derived.Test.YtnfjjbpmhcbelaaGreatDoorCoCM
import Derived.Test.YtnfjjbpmhcbelaaGreatDoorAppAny
import Derived.Test.YtnfjjbpmhcbelaaGreatDoorGaugeA
namespace Go.Proofs.YtnfjjbpmhcbelaaGreatDoor
set_option maxRecDepth 100000
set_option maxHeartbeats 8000000
open Go.RowKit dI
section
variable {W0 : World} {E : Nat → Addr} {H : Nat → Nat} {C : iF} {w0 : World} {G0 : List Nat} {w w' : World} {F : List Nat} {st : lG}
theorem aB.double (h:aB W0 E H C w0 G0 w F st){cb fb fe:Nat}{w1:World}(hc:st.a.cop=none)(hC:jk w1 cb C.A.db C.A.eb fb fe st.a.d 0 st.a.l (List.replicate (2^(st.a.d+1)) 0))(h1:w.heap.size≤cb)(h2:w.heap.size≤fb)(h3:w.heap.size≤fe)(hb:Below w.heap.size w w1)(zM:32∉st.ids):
  ∃F',aB W0 E H {C with A:={C.A with cb:=cb,fb:=fb,fe:=fe},v:=C.v} w0 G0 (w1.setCell ⟨C.mb,13,none⟩ (pQ cb)) F' {st with a:={st.a with cop:=some (0,List.replicate (2^(st.a.d+1)) 0)}}:=by
 obtain⟨Fs,hF,hp⟩:=h.aD.pool;have hml:C.mb<w.heap.size:=h.aD.met.lt;have hm:Mod [C.mb] w (w1.setCell ⟨C.mb,13,none⟩ (pQ cb)):=(Mod.of_below hb [C.mb]).ak (.inl (by simp)) _ _;have hmb:∀q∈F,q∉[C.mb]:=fun q hq e=>h.hp.mb h.aD.pool (by show C.mb∈F;rw[←List.mem_singleton.1 e];exact hq);have hlts:=h.gI;have yA:∀q∈F,q<w.heap.size:=fun q hq=>hlts q (aZ.2 (.inr (.inr (.inl hq))));have zf:∀i,i<st.a.Ns.length→∀q∈Fs i,q∈F:=fun i hi q hq=>hF▸aS.2 (.inl ⟨i,hi,hq⟩);have vX:∀q∈C.A.dY st.a.cop,q∈F:=fun q hq=>hF▸aS.2 (.inr hq)
 have hC2:jk (w1.setCell ⟨C.mb,13,none⟩ (pQ cb)) cb C.A.db C.A.eb fb fe st.a.d 0 st.a.l (List.replicate (2^(st.a.d+1)) 0):=
  hC.mod (S:=[C.mb]) ((Mod.refl _ w1).ak (.inl (by simp)) _ _) (fun q hq dK=>by
   have:=List.mem_singleton.1 dK;simp at hq;rcases hq with e|e|e|e|e
   ·omega
   ·exact hmb q (vX q (by unfold dA.dY;simp[e])) (by simp[this])
   ·exact hmb q (vX q (by unfold dA.dY;simp[e])) (by simp[this])
   ·omega
   ·omega)
 have hdf:∀q,q∈({C.A with cb:=cb,fb:=fb,fe:=fe}:dA).dY (some (0,List.replicate (2^(st.a.d+1)) 0))↔q∈C.A.dY st.a.cop∨q=cb∨q=fb∨q=fe:=fun q=>by
  unfold dA.dY;rw[hc];simp;omega
 have hin:∀q,q∈gV ({C.A with cb:=cb,fb:=fb,fe:=fe}:dA) Fs {st.a with cop:=some (0,List.replicate (2^(st.a.d+1)) 0)}→q∈F∨w.heap.size≤q:=fun q hq=>by
  rcases aS.1 hq with⟨i,hi,hq2⟩|hq2
  ·exact .inl (zf i hi q hq2)
  ·rcases(hdf q).1 hq2 with e|e|e|e
   ·exact .inl (vX q e)
   ·exact .inr (by omega)
   ·exact .inr (by omega)
   ·exact .inr (by omega)
 have hP:iV W0 C.mb H ({C.A with cb:=cb,fb:=fb,fe:=fe}:dA) (w1.setCell ⟨C.mb,13,none⟩ (pQ cb)) Fs {st.a with cop:=some (0,List.replicate (2^(st.a.d+1)) 0)}:=
  ⟨fun i N hN=>⟨(hp.lF i N hN).1.mod hm (fun q hq=>hmb q (zf i (bG hN) q hq)),(hp.lF i N hN).2⟩,hC2.old,fun next lf he=>by
   have:=Option.some.inj he;cases this
   exact hC2,hp.sep,fun i hi q hq hq2=>by
   have hq':=zf i hi q hq;rcases(hdf q).1 hq2 with e|e|e|e
   ·exact hp.wE i hi q hq e
   ·have:=yA q hq';omega
   ·have:=yA q hq';omega
   ·have:=yA q hq';omega,fun q hq=>by
   rcases hin q hq with e|e
   ·exact hp.low q (hF▸e)
   ·have:=h.aD.env.size;omega,fun hq=>by
   rcases hin _ hq with e|e
   ·exact hmb _ e (by simp)
   ·omega,hp.yB⟩
 refine⟨_,h.upd {C.A with cb:=cb,fb:=fb,fe:=fe} C.v {st with a:={st.a with cop:=some (0,List.replicate (2^(st.a.d+1)) 0)}} hm (fun q hq=>aZ.2 (.inl (List.mem_singleton.1 hq))) ((h.aD.aD.mod hm (fun q hq dK=>(h.aD.apart q hq).2.1 (List.mem_singleton.1 dK))).aaC (fun id hid=> ?_)) ⟨Fs,rfl,hP⟩ ⟨rfl, ?_⟩ (lW (st:=st) h hm (fun q hq=> .inl (List.mem_singleton.1 hq))) h.pos hin (fun g hg=>⟨.inl hg,fun hh=>by have:=(h.row.lt g hg).2;omega⟩)⟩
 ·have hne:id≠32:=fun e=>zM (e▸hid);show C.A.val id=({C.A with cb:=cb,fb:=fb,fe:=fe}:dA).val id;unfold dA.val dA.ja;simp only;rw[if_neg hne,if_neg hne];rfl
 ·exact((Met.blk h.aD.met).mod (Mod.of_below hb []) (by simp)).ak 13 _
end
theorem Qi {W0:World}{E:Nat→Addr}{P:MP}{α:Type}{jt:Nat→TypeId}{ja:Nat→Addr}{At:World→List Nat→α→Prop}{can:α→Nat→Prop}{left:α→Nat→Nat}{Stp:α→Nat→α→Prop}(HP:iO W0 E P jt ja At can left Stp)(s:SP)(F:List Nat)(K:Nat)(hK:1≤K∧K≤64)(hk:s.k=(K:Int))(b:Int)(ids:List Nat)(a:α)(x:bL)(own:Nat)(lD:own≤1000)(hval:∀id,s.val id= .iface (jt id) (.pointer (some (ja id))))(hcan:∀id∈ids,can a id∧id≤1000)(w:World)(h:bD W0 E P At s w F w b ids a F x):
  Calls Tryz.prog 116 #[eG s.sb,mP P,nI own] w fun e w'=>∃A cc e1 bM a1 a2 F' x' b',e= .returned (.slice A (e1++gq left a2 bM).length cc)∧w'.ownsRow w.heap.size 3 1 (.slice A (e1++gq left a2 bM).length cc) (e1++gq left a2 bM).length (dD (e1++gq left a2 bM))∧vS left Stp ids own (8*K) a a1∧tF left Stp K ids a1 e1 bM a2∧bD W0 E P At s w F w' b' (iC left a2 bM) a2 F' x'∧dL x x' 0 (9*K)∧nL P s F' (.slice A (e1++gq left a2 bM).length cc):=by
 by_cases hin:own∈ids
 ·exact JM HP s F K hK hk b ids a x own lD hin hval hcan w h
 ·exact IQ HP s F K hK hk b ids a x own lD hin hval hcan w h
def AB (W0:World)(E:Nat→Addr)(H:Nat→Nat)(C:iF)(w0:World)(G0:List Nat)(st:lG)(id:Nat)(w':World):Prop:=
 ∃(A':dA) (v':Value) (F':List Nat) (a':Pool) (aK:List Nat) (b':Int) (x':bL) (u:Nat),aaE H C.K st.a st.ids id a' aK∧jV a' aK []∧a'.ents.Perm st.a.ents∧aB W0 E H {C with A:=A',v:=v'} w0 G0 w' F' {st with a:=a',ids:=aK,b:=b',x:=x'}∧dL st.x x' 0 u
theorem WA {l t:Int}{g lo gl:Nat}(h:jo l t g lo gl=0):eU l t g lo gl=false:=by
 unfold jo at h;unfold eU;split at h
 ·next h1=>rw[h1];rfl
 ·split at h
  ·cases h
  ·split at h
   ·cases h
   ·split at h<;>cases h
theorem acJ {l t:Int}{g lo gl:Nat}(h:eU l t g lo gl=true):gl<5:=by
 unfold eU at h;simp at h;omega
theorem nX {W0:World}{E:Nat→Addr}{H:Nat→Nat}{C:iF}{w0:World}{G0:List Nat}{w:World}{F:List Nat}{st:lG}(h:aB W0 E H C w0 G0 w F st)(id:Nat)(N:Nd)(hN:st.a.Ns[id]?=some N)(hcp:TM st.a st.ids id):Calls Tryz.prog 81 #[bg C.mb,nI id,aL (C.A.nb id)] w fun e w'=>e= .returned undef∧AB W0 E H C w0 G0 st id w':=by
 have HC:=qd h;obtain⟨c0,c1,c11,c12,c13,c14,c15⟩:=HC.out.cells;have hid:=bG hN;have hbd:=h.bounds
 have lD:id≤1000:=by have:=hbd.2.1;omega
 have h32:id≠32:=by have:=hbd.2.1;omega
 have hO:=hbd.2.2.2 id N hN;obtain⟨Fs,hF,hpo⟩:=h.aD.pool;have Dw:=qd (K4 C.A.db C.A.eb st.a.d st.a.l w hpo.dir);obtain⟨hnA,_⟩:=hpo.lF id N hN
 obtain⟨k,O3,hW,hcase⟩:∃(k:Nat) (O3:Bool),(Calls Tryz.prog 110 #[aL (C.A.nb id),nI st.a.d] w fun e w'=>e= .returned (.tuple #[nI k,.bool O3])∧Below w.heap.size w w')∧((N.ph.busy=true∧k=0∧O3=false)∨(N.ph= .idle∧jo N.T.live N.T.bW N.len N.au st.a.d=k∧eU N.T.live N.T.bW N.len N.au st.a.d=O3)):=by
  cases hb:N.ph.busy with
  |true=>
   exact⟨0,false,Mf st.a.d hnA hb,.inl ⟨rfl,rfl,rfl⟩⟩
  |false=>
   exact⟨_,_,Mg st.a.d hnA hO (Rq hb),.inr ⟨Rq hb,rfl,rfl⟩⟩
 have HW:=qd hW;have WB:=qd hcase;have HO:=qd hO;have HN:=qd hN;have kF:=qd hcp;have mJ:=qd hbd
 have agd:st.ids.length≤33:=by
  have hh:=JN st.ids (List.range 33) hcp.nd (fun x hx=>by
   rw[List.mem_range];rcases(hcp.jg x).2 hx with⟨M,h1,_⟩|⟨_,h1,_⟩
   ·have:=bG h1;have h3:=hbd.2.1;omega
   ·omega)
  simpa using hh
 clear h hW hcase hO hN hcp hpo hF hnA hbd hid;unfold iJ at Dw;unfold aL at HW;unfold bg aL;go_in;go_wp2_with fail;refine Dw.out.mono ?_;rintro x w1 ⟨rfl,rfl⟩;go_wp2_with fail;refine HW.out.mono ?_;rintro x w1 ⟨rfl,hb⟩;replace HC:=qd (HC.out.below hb);clear c0 c1 c11 c12 c13 c14 c15 Dw HW hb;by_cases hk0:k=0
 focus
  subst hk0
  have hki:¬((0:Nat):Int)≠0:=by omega
  have hdb:O3=false:=by
   rcases WB.out with⟨_,_,h1⟩|⟨_,h1,h2⟩
   ·exact h1
   ·rw[←h2];exact WA h1
  subst hdb
  obtain⟨a1,bM,F1,GH,hC1⟩:∃a1 bM F1,zO st.a st.ids id a1 bM∧(bM=st.ids)∧aB W0 E H C w0 G0 w1 F1 {st with a:=a1,ids:=bM}:=by
   rcases WB.out with⟨h1,_,_⟩|⟨h1,h2,h3⟩
   ·exact⟨st.a,st.ids,F,.busy HN.out h1,rfl,HC.out⟩
   ·obtain⟨Fi,n1,n2,n3,n4,n5,n6⟩:=HC.out.node HN.out;obtain⟨F2,hf2⟩:=n6 w1 Fi [] {N with sl:=0} st.x n1 (abg n2 h1 h2) (fun q hq=> .inl hq) HC.out.aD.met (Mod.refl _ _) (by simp);exact⟨_,st.ids,F2,.none HN.out h1 h2,rfl,hf2⟩
  obtain⟨aaG,hC1⟩:=hC1;obtain⟨hsv,hd1,hl1,hc1,he1⟩:=Rs kF.out (fun M hM=>by rw[HN.out]at hM;cases hM;exact HO.out) GH;have y8:=qd GH;obtain⟨a2,aO,A1,v1,x2,b2,ha2⟩:∃(a2:Pool) (aO:List Nat) (A1:dA) (v1:Value) (x2:bL) (b2:Int),a2=a1∧aO=bM∧A1=C.A∧v1=C.v∧x2=st.x∧b2=st.b:=⟨_,_,_,_,_,_,rfl,rfl,rfl,rfl,rfl,rfl⟩;obtain⟨g1,g2,g3,g4,g5,g6⟩:=ha2;have um:=qd (show D6 (O1 st.a id) a1 bM a2 aO from by rw[g1,g2];exact .not);have zh:=qd (show D7 a2 aO id from by rw[g1,g2];exact hsv);have vF:=qd (show a2.ents=st.a.ents from by rw[g1];exact he1);have nY:=qd (show dL st.x x2 0 0 from by rw[g5];exact dL.refl _)
  have TN:aO.length≤40:=by rw[g2,aaG];omega
  obtain⟨V,hV⟩:∃V,V=w1:=⟨_,rfl⟩;have yD:=qd (show aB W0 E H {C with A:=A1,v:=v1} w0 G0 V F1 {st with a:=a2,ids:=aO,b:=b2,x:=x2} from by rw[g1,g2,g3,g4,g5,g6,hV];exact hC1);rw[←hV];clear HC hC1 hsv GH hd1 hl1 hc1 he1 g1 g2 g3 g4 g5 g6 aaG hV WB kF mJ HO;have HC:=yD;clear yD;go_upto_region 7 with fail
 rotate_left
 focus
  have hki:¬(k:Int)=0:=by omega
  have hcs:N.ph= .idle∧jo N.T.live N.T.bW N.len N.au st.a.d=k∧eU N.T.live N.T.bW N.len N.au st.a.d=O3:=by
   rcases WB.out with⟨_,h1,_⟩|h1
   ·exact absurd h1 hk0
   ·exact h1
  have Cv:=qd hcs;have GH:=zO.start (ids:=st.ids) HN.out hcs.1 hcs.2.1 hk0;obtain⟨hsv,hd1,hl1,hc1,he1⟩:=Rs kF.out (fun M hM=>by rw[HN.out]at hM;cases hM;exact HO.out) GH;have y8:=qd GH;have zh:=qd hsv;have JO:=qd he1;obtain⟨Fi,n1,n2,n3,n4,n5,n6⟩:=HC.out.node HN.out;have lC:=qd (Zl st.a.d k mJ.out.1 n1 n2 hcs.1 hcs.2.1 hk0);have HX:=qd n6;have Ro:=qd n3;have IZ:=qd n1.Mx
  have acK:id∉st.ids:=fun hh=>by
   have h1:=(kF.out.jg id).2 hh;rw[GD HN.out,hcs.1]at h1;cases h1
  have HNi:=qd acK;have HOs:=qd (Oj n2 hcs.1 mJ.out.1 hcs.2.1 hk0).1;clear hcs GH hsv hd1 hl1 hc1 he1 n1 n2 n3 n4 n5 n6 acK WB;unfold aL at lC;go_wp2_with fail;refine lC.out.mono ?_;rintro x w2 ⟨rfl,F',q1,q2,q3⟩;obtain⟨F2,hf2⟩:=HX.out w2 F' _ _ st.x q1 HOs.out q2 (HC.out.aD.met.mod q3 (fun hq=>Ro.out (by rw[show C.mb=C.A.nb id from List.mem_singleton.1 hq];exact IZ.out))) q3 (fun q hq=> .inr (by rw[List.mem_singleton.1 hq];exact IZ.out));have yD:=qd hf2;clear hf2 q1 q2 q3 HC lC HX Ro IZ HOs;go_wp2_with fail;refine(jw w2).mono ?_;rintro x w3 ⟨rfl,rfl⟩;have uw:=qd (OW yD.out id 135 ⟨C.A.nb id,0,none⟩ (by unfold dA.val dA.jt dA.ja;rw[if_neg h32,if_neg h32]) HNi.out lD (by show st.ids.length<40;omega));unfold bg at uw;go_wp2_with fail;refine uw.out.mono ?_;rintro x w4 ⟨rfl,h4⟩;have mU:=qd h4;clear h4 yD uw HNi;cases hdv:O3
  case' false=>
   subst hdv;obtain⟨c0,c1,c11,c12,c13,c14,c15⟩:=mU.out.cells;go_upto_region 7 with fail;clear c0 c1 c11 c12 c13 c14 c15;obtain⟨a2,aO,A1,v1,x2,b2,F1,V,ha2⟩:∃(a2:Pool) (aO:List Nat) (A1:dA) (v1:Value) (x2:bL) (b2:Int) (F1:List Nat) (V:World),a2={st.a with Ns:=st.a.Ns.set id (N.start k)}∧aO=st.ids++[id]∧A1=C.A∧v1=C.v∧x2=st.x.add (cU 1) 1∧b2=st.b∧F1=F2∧V=w4:=⟨_,_,_,_,_,_,_,_,rfl,rfl,rfl,rfl,rfl,rfl,rfl,rfl⟩;obtain⟨g1,g2,g3,g4,g5,g6,g7,g8⟩:=ha2;obtain⟨a1,bM,hg⟩:∃(a1:Pool) (bM:List Nat),a1=a2∧bM=aO:=⟨_,_,rfl,rfl⟩;obtain⟨g9,g10⟩:=hg;have um:=qd (show D6 (O1 st.a id) a1 bM a2 aO from by rw[g9,g10];exact .not);have D8:=qd (show zO st.a st.ids id a1 bM from by rw[g9,g10,g1,g2];exact y8.out);have D9:=qd (show D7 a2 aO id from by rw[g1,g2];exact zh.out);have vF:=qd (show a2.ents=st.a.ents from by rw[g1];exact JO.out);have nY:=qd (show dL st.x x2 0 1 from by rw[g5];exact tH _ 1)
   have TN:aO.length≤40:=by rw[g2,List.length_append,List.length_singleton];omega
   have iG:=qd (show aB W0 E H {C with A:=A1,v:=v1} w0 G0 V F1 {st with a:=a2,ids:=aO,b:=b2,x:=x2} from by rw[g1,g2,g3,g4,g5,g6,g7,g8];exact mU.out);rw[←g8];clear mU y8 zh JO g1 g2 g3 g4 g5 g6 g7 g8 g9 g10 Cv kF mJ HO;have HC:=iG;have y8:=D8;have zh:=D9;clear iG D8 D9
  case' true=>
   cases Gz:st.a.cop
   case' some cc=>
    subst hdv;obtain⟨c0,c1,c11,c12,c13,c14,c15⟩:=mU.out.cells
    have hcv:lH C.A st.a.cop=pQ C.A.cb:=by unfold lH;rw[Gz];rfl
    have ZF:w4.cell? ⟨C.mb,13,none⟩=some (pQ C.A.cb):=by rw[←hcv];exact c13
    clear c13 hcv;go_upto_region 7 with fail;clear c0 c1 c11 c12 ZF c14 c15;obtain⟨a2,aO,A1,v1,x2,b2,F1,V,ha2⟩:∃(a2:Pool) (aO:List Nat) (A1:dA) (v1:Value) (x2:bL) (b2:Int) (F1:List Nat) (V:World),a2={st.a with Ns:=st.a.Ns.set id (N.start k)}∧aO=st.ids++[id]∧A1=C.A∧v1=C.v∧x2=st.x.add (cU 1) 1∧b2=st.b∧F1=F2∧V=w4:=⟨_,_,_,_,_,_,_,_,rfl,rfl,rfl,rfl,rfl,rfl,rfl,rfl⟩;obtain⟨g1,g2,g3,g4,g5,g6,g7,g8⟩:=ha2;obtain⟨a1,bM,hg⟩:∃(a1:Pool) (bM:List Nat),a1=a2∧bM=aO:=⟨_,_,rfl,rfl⟩;obtain⟨g9,g10⟩:=hg;have um:=qd (show D6 (O1 st.a id) a1 bM a2 aO from by rw[g9,g10];exact .not);have D8:=qd (show zO st.a st.ids id a1 bM from by rw[g9,g10,g1,g2];exact y8.out);have D9:=qd (show D7 a2 aO id from by rw[g1,g2];exact zh.out);have vF:=qd (show a2.ents=st.a.ents from by rw[g1];exact JO.out);have nY:=qd (show dL st.x x2 0 1 from by rw[g5];exact tH _ 1)
    have TN:aO.length≤40:=by rw[g2,List.length_append,List.length_singleton];omega
    have iG:=qd (show aB W0 E H {C with A:=A1,v:=v1} w0 G0 V F1 {st with a:=a2,ids:=aO,b:=b2,x:=x2} from by rw[g1,g2,g3,g4,g5,g6,g7,g8];exact mU.out);rw[←g8];clear mU y8 zh JO g1 g2 g3 g4 g5 g6 g7 g8 g9 g10 Cv kF mJ HO;have HC:=iG;have y8:=D8;have zh:=D9;clear iG D8 D9
   case' none=>
    subst hdv;obtain⟨c0,c1,c11,c12,c13,c14,c15⟩:=mU.out.cells
    have hcv:lH C.A st.a.cop= .pointer none:=by unfold lH;rw[Gz];rfl
    have ZF:w4.cell? ⟨C.mb,13,none⟩=some (.pointer none):=by rw[←hcv];exact c13
    have hd5:st.a.d<5:=acJ Cv.out.2.2;have AA:=qd Gz;obtain⟨Fs4,hF4,hp4⟩:=mU.out.aD.pool;have jR:=qd (Qc C.A.db C.A.eb st.a.d st.a.l hd5 w4 hp4.dir)
    have hn32:32∉st.ids++[id]:=fun hh=>by
     rcases List.mem_append.1 hh with h1|h1
     ·rcases(kF.out.jg 32).2 h1 with⟨M,h2,_⟩|⟨_,_,c,h2⟩
      ·have:=bG h2;have h3:=mJ.out.2.1;omega
      ·rw[Gz]at h2;cases h2
     ·exact h32 (List.mem_singleton.1 h1).symm
    have ZG:=qd hn32;have HD5:=qd hd5;clear c13 hcv hF4 hp4 hn32 Gz;unfold iJ qy at jR;go_wp2_with fail;refine jR.out.mono ?_;rintro x w5 ⟨cb,fb,fe,rfl,D5,⟨z1,z2,z3⟩,hb5⟩;have yE:=qd D5;have p8:=qd hb5;have hB:=(Met.blk mU.out.aD.met).mod (Mod.of_below hb5 []) (by simp);have e13:w5.cell? ⟨C.mb,13,none⟩=some (lH C.A st.a.cop):=hB.cell 13;have g13:w5.frozen? ⟨C.mb,13,none⟩=false:=hB.frozen 13;clear c0 c1 c11 c12 ZF c14 c15 hB D5 hb5 jR;go_wp2_with fail;refine(YP (some ⟨cb,0,none⟩) w5).mono ?_;rintro x w6 ⟨rfl,rfl⟩;obtain⟨F6,vY⟩:=mU.out.double AA.out yE.out z1 z2 z3 p8.out ZG.out;go_upto_region 6 with fail;refine bV (F:=fun v=>aB W0 E H {C with A:={C.A with cb:=cb,fb:=fb,fe:=fe},v:=C.v} w0 G0 v F6 {st with a:={st.a with Ns:=st.a.Ns.set id (N.start k),cop:=some (0,List.replicate (2^(st.a.d+1)) 0)},ids:=st.ids++[id],x:=st.x.add (cU 1) 1}) vY ?_;rintro w7 hC7;have Wy:=qd hC7;have k13:w7.cell? ⟨C.mb,13,none⟩=some (pQ cb):=Wy.out.cells.2.2.2.2.1;have uw:=qd (OW Wy.out 32 145 ⟨cb,0,none⟩ (by unfold dA.val dA.jt dA.ja;rw[if_pos rfl,if_pos rfl]) ZG.out (by omega) (by show(st.ids++[id]).length<40;rw[List.length_append,List.length_singleton];omega));unfold bg at uw;clear vY hC7 e13 g13 mU yE p8 z1 z2 z3;go_wp2_with fail;refine uw.out.mono ?_;rintro x w8 ⟨rfl,h8⟩;have HC8:=qd h8;clear h8 uw Wy k13
    obtain⟨a2,aO,A1,v1,x2,b2,F1,V,ha2⟩:∃(a2:Pool) (aO:List Nat) (A1:dA) (v1:Value) (x2:bL) (b2:Int) (F1:List Nat) (V:World),a2={st.a with Ns:=st.a.Ns.set id (N.start k),cop:=some (0,List.replicate (2^(st.a.d+1)) 0)}∧aO=st.ids++[id]++[32]∧A1={C.A with cb:=cb,fb:=fb,fe:=fe}∧v1=C.v∧x2=(st.x.add (cU 1) 1).add (cU 1) 1∧b2=st.b∧F1=F6∧V=w8:=⟨_,_,_,_,_,_,_,_,rfl,rfl,rfl,rfl,rfl,rfl,rfl,rfl⟩;obtain⟨g1,g2,g3,g4,g5,g6,g7,g8⟩:=ha2;obtain⟨a1,bM,hg⟩:∃(a1:Pool) (bM:List Nat),a1={st.a with Ns:=st.a.Ns.set id (N.start k)}∧bM=st.ids++[id]:=⟨_,_,rfl,rfl⟩;obtain⟨g9,g10⟩:=hg
    have hdb:D6 (O1 st.a id) a1 bM a2 aO:=by rw[g9,g10,g1,g2];exact .yes ⟨N,HN.out,Cv.out.2.2⟩ AA.out HD5.out
    have um:=qd hdb;have D8:=qd (show zO st.a st.ids id a1 bM from by rw[g9,g10];exact y8.out);have D9:=qd (abw (show D7 a1 bM id from by rw[g9,g10];exact zh.out) (by rw[g9];simpa using mJ.out.2.1) hdb).1;have vF:=qd (show a2.ents=st.a.ents from by rw[g1];exact JO.out);have nY:=qd (show dL st.x x2 (0+0) (1+1)from by rw[g5];exact(tH _ 1).trans (tH _ 1))
    have TN:aO.length≤40:=by rw[g2,List.length_append,List.length_append,List.length_singleton,List.length_singleton];omega
    have iG:=qd (show aB W0 E H {C with A:=A1,v:=v1} w0 G0 V F1 {st with a:=a2,ids:=aO,b:=b2,x:=x2} from by rw[g1,g2,g3,g4,g5,g6,g7,g8];exact HC8.out);rw[←g8];clear HC8 y8 zh JO g1 g2 g3 g4 g5 g6 g7 g8 g9 g10 hdb Cv kF mJ HO AA HD5 ZG;have HC:=iG;have y8:=D8;have zh:=D9;clear iG D8 D9;go_upto_region 7 with fail
 all_goals
  have FD:=qd (HC.out.below (Below.refl V.heap.size V).drew);have e14:V.cell? ⟨C.mb,14,none⟩=some (pQ C.sb):=HC.out.cells.2.2.2.2.2.1;have hbd:=FD.out.bounds
  have HSe:=qd (Qi FD.out.hp ({C with A:=A1,v:=v1}:iF).s F1 C.K FD.out.kk rfl b2 aO a2 x2 id lD (fun _=>rfl) (fun j hj=>⟨(zh.out.pre.jg j).2 hj,by
   rcases(zh.out.pre.jg j).2 hj with⟨M,h1,_⟩|⟨_,h1,_⟩
   ·have:=bG h1;have h3:=hbd.2.1;simp only at h3;omega
   ·omega⟩) (World.drew V) FD.out.aD)
  have HS2:=qd (show Calls Tryz.prog 116 #[pQ C.sb,.pointer (some ⟨C.mb,3,none⟩),nI id] (World.drew V) _ from HSe.out);clear HSe HC hbd;go_upto_region 7 with fail;refine rT (fun(w':World)=>w'.cell? ⟨C.mb,14,none⟩=some (pQ C.sb)) [8] ?_;have hHeld:=e14;refine vW 0 rfl ?_;refine vW 1 rfl ?_;refine vW 2 rfl ?_;refine vT 3 rfl ?_;refine vW 4 rfl ?_;refine vW 5 rfl ?_;refine vW 6 rfl ?_;refine vW 7 rfl ?_;refine vW 10 rfl ?_;refine nT 8 rfl fun K hK=> ?_;go_simp;refine(HS2.out).mono ?_;rintro y V2 ⟨A9,c9,e1,nM,a3,a4,F4,x4,b4,rfl,hrow,hown,hoth,hs,hco,hra⟩;obtain⟨acL,TP⟩:=abx FD.out.kk.1 zh.out hown hoth;have iG:=qd (FD.out.served hs TP.len TP.cop);have Aw:=qd acL;have gG:=qd hown;have FB:=qd hoth;have yG:=qd (show a4.ents.Perm st.a.ents from by rw[←vF.out];exact TP.ents);have acM:=qd (nY.out.trans hco);obtain⟨pend,TQ⟩:∃p,p=e1++gq Pool.left a4 nM:=⟨_,rfl⟩;rw[←TQ]at hrow hra⊢;have WC:=qd TQ;have DZ:=qd hrow
  have I4:=qd (show∀g,(Value.slice A9 pend.length c9).ownBlock=some g→g∉({C with A:=A1,v:=v1}:iF).foot F4 from fun g hg hq=>by
   have hl:=(hrow.lt g hg);rcases aZ.1 hq with h1|h1|h1|h1
   ·exact hra g hg (by rw[h1];exact List.mem_cons_self ..)
   ·exact hra g hg (List.mem_cons_of_mem _ (List.mem_append_left _ h1))
   ·exact hra g hg (List.mem_cons_of_mem _ (List.mem_append_right _ h1))
   ·have:=(FD.out.row.lt g h1).2;omega)
  obtain⟨bs,hbs⟩:∃bs,bs=(World.drew V).heap.size:=⟨_,rfl⟩;rw[←hbs]at DZ;clear hrow hown hoth hs hco hra acL TP TQ HS2 FD zh vF nY hbs;go_wp2_with fail;refine kO hK ?_;clear hK K;refine vL 9 rfl ?_;refine aR (by kernel_rfl) ?_ _
  have hpl:pend.length≤40:=by
   have h1:=sj FB.out;have h2:=congrArg List.length h1;rw[List.length_append]at h2;have h3:(gq Pool.left a4 nM).length≤nM.length:=List.length_filter_le _ _;rw[WC.out,List.length_append];have h4:=TN;omega
  clear e14;go_wp2;go_loopw [9,67] (fun _ v67 wr=>∃(i:Nat) (A':dA) (v':Value) (F':List Nat) (a':Pool) (x':bL) (u':Nat),i≤pend.length∧v67=nI i∧Hid (aB W0 E H {C with A:=A',v:=v'} w0 G0 wr F' {st with a:=a',ids:=iC Pool.left a4 nM,b:=b4,x:=x'})∧Hid (jV a' (iC Pool.left a4 nM) (pend.drop i))∧Hid (∀c,yF H a' (pend.drop i) c→yF H a4 pend c)∧Hid (a'.ents.Perm st.a.ents)∧Hid (dL st.x x' 0 u')∧Hid (wr.ownsRow bs 3 1 (.slice A9 pend.length c9) pend.length (dD pend))∧Hid (∀g,(Value.slice A9 pend.length c9).ownBlock=some g→g∉({C with A:=A',v:=v'}:iF).foot F')) (fun _ v67 _=>pend.length-(intOf v67).toNat)
  case atStart=>exact⟨0,A1,v1,F4,a4,x4,_,by omega,rfl,iG,qd (by rw[List.drop_zero,WC.out];exact Aw.out),qd (fun _ h=>h),yG,acM,DZ,I4⟩
  case round=>
   clear iG Aw yG acM DZ I4;obtain⟨i,A',v',F',a',x',u',hi,rfl,HC,Aw,HEa,yG,nY,DZ,I4⟩:=hrel;by_cases hlt:i<pend.length
   ·have hlt':(i:Int)<(pend.length:Int):=by omega
    have hi0:(0:Int)≤(i:Int):=by omega
    have acC:(i:Int)≤41:=by omega
    obtain⟨j,hj⟩:∃j,pend[i]?=some j:=⟨_,List.getElem?_eq_getElem hlt⟩;obtain⟨g,hA9,hge,hgl,hce,_⟩:=mM DZ.out hj;have Li:=qd (drop_cons hj);have HU:=qd (DY HC.out.again 1 (Nat.le_refl _));have HA9:=qd hA9;subst hA9;clear hj;go_wp2_with fail;refine HU.out.mono ?_;rintro y w1 ⟨rfl,h1⟩;have HR1:=qd (jJ DZ.out h1.mod (fun k hk=>I4.out k hk));have ZH:=qd (show∀g',(Value.slice (some ⟨g,0,none⟩) pend.length c9).ownBlock=some g'→g'∉({C with A:=A',v:=v'}:iF).foot F' from I4.out);have wO:=qd (HC.out.chain h1);have Gw:=qd (nY.out.trans (tH _ 1))
    have hin:jV a' (iC Pool.left a4 nM) (j::pend.drop (i+1)):=by rw[←Li.out];exact Aw.out
    have hbd:=wO.out.bounds;have bQ:=qd (ZE wO.out.again j (pend.drop (i+1)) hin);have acN:=qd (fun(b:Pool) (hb:BJ H a' j b)=>ZC hin hb hbd.1 hbd.2.1 hbd.2.2.1);clear h1 hin HC DZ I4 HU Aw hce nY hbd;unfold bg at bQ;go_wp2_with fail;refine bQ.out.mono ?_;rintro y w2 ⟨rfl,A2,v2,F2,b2',x2',u2',hE,hC2,DV⟩;obtain⟨k1,k2,k3,k4,k5⟩:=acN.out b2' hE;have yD:=qd (wO.out.chain hC2);have HR2:=qd (jJ HR1.out hC2.mod (fun k hk=>ZH.out k hk))
    have aeu:=qd (show∀g',(Value.slice (some ⟨g,0,none⟩) pend.length c9).ownBlock=some g'→g'∉({C with A:=A2,v:=v2}:iF).foot F2 from fun g' hg' hq=>by
     rcases hC2.sub g' hq with h1|h1
     ·exact ZH.out g' hg' h1
     ·have:=(HR1.out.lt g' hg').2;omega)
    have HK1:=qd k1;have HK4:=qd (k4.trans yG.out);have aev:=qd (fun c (hc:yF H b2' (pend.drop (i+1)) c)=>HEa.out c (by rw[Li.out];exact .cons hE hc));have OJ:=qd (Gw.out.trans DV);clear hE hC2 DV k1 k2 k3 k4 k5 wO HR1 ZH bQ acN HEa yG Gw;go_wp2;go_roundw
    case rel=>exact⟨i+1,A2,v2,F2,b2',x2',_,by omega,by go_num,yD,HK1,aev,HK4,OJ,HR2,aeu⟩
    case measure=>simp[intOf];omega
   ·obtain rfl:i=pend.length:=by omega
    have hlt':¬(pend.length:Int)<(pend.length:Int):=by omega
    have hIn:=Aw.out;have hEa:=HEa.out;rw[List.drop_length]at hIn hEa;have Ea:=qd (show AB W0 E H C w0 G0 st id wr from⟨A',v',F',a',_,b4,x',u',⟨a1,bM,a2,aO,a3,e1,nM,a4,y8.out,um.out,gG.out,FB.out,by rw[←WC.out];exact hEa a' (.nil a'),rfl⟩,hIn,yG.out,HC.out,nY.out⟩);clear hIn hEa;go_wp2;go_end0
    first|exact⟨rfl,Ea.out⟩|exact Ea.out
end Go.Proofs.YtnfjjbpmhcbelaaGreatDoor
