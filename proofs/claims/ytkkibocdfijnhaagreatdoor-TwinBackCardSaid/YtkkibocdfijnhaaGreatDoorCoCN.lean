/- A core's maintain by its contract. -/
import Derived.Test.YtkkibocdfijnhaaGreatDoorCoCM
import Derived.Test.YtkkibocdfijnhaaGreatDoorCoO
import Derived.Test.YtkkibocdfijnhaaGreatDoorLaneP
namespace Go.Proofs.YtkkibocdfijnhaaGreatDoor
set_option maxRecDepth 100000
set_option maxHeartbeats 8000000
open Go.RowKit bV
section
variable {W0 : World} {E : Nat → Addr} {H : Nat → Nat} {C : iE} {w0 : World} {G0 : List Nat} {w w' : World} {F : List Nat} {st : kS}
theorem aD.double (h:aD W0 E H C w0 G0 w F st){cb fb fe:Nat}{w1:World}(hc:st.a.cop=none)(hC:jk w1 cb C.A.db C.A.eb fb fe st.a.d 0 st.a.l (List.replicate (2^(st.a.d+1)) 0))(h1:w.heap.size≤cb)(h2:w.heap.size≤fb)(h3:w.heap.size≤fe)(hb:Below w.heap.size w w1)(zl:32∉st.ids):
  ∃F',aD W0 E H {C with A:={C.A with cb:=cb,fb:=fb,fe:=fe},v:=C.v} w0 G0 (w1.setCell ⟨C.mb,13,none⟩ (pQ cb)) F' {st with a:={st.a with cop:=some (0,List.replicate (2^(st.a.d+1)) 0)}}:=by
 obtain⟨Fs,hF,hp⟩:=h.aF.pool;have hml:C.mb<w.heap.size:=h.aF.met.lt;have hm:Mod [C.mb] w (w1.setCell ⟨C.mb,13,none⟩ (pQ cb)):=(Mod.of_below hb [C.mb]).ak (.inl (by simp)) _ _;have hmb:∀q∈F,q∉[C.mb]:=fun q hq e=>h.hp.mb h.aF.pool (by show C.mb∈F;rw[←List.mem_singleton.1 e];exact hq);have hlts:=h.fM;have xR:∀q∈F,q<w.heap.size:=fun q hq=>hlts q (bq.2 (.inr (.inr (.inl hq))));have yM:∀i,i<st.a.Ns.length→∀q∈Fs i,q∈F:=fun i hi q hq=>hF▸aQ.2 (.inl ⟨i,hi,hq⟩);have vC:∀q∈C.A.eF st.a.cop,q∈F:=fun q hq=>hF▸aQ.2 (.inr hq)
 have hC2:jk (w1.setCell ⟨C.mb,13,none⟩ (pQ cb)) cb C.A.db C.A.eb fb fe st.a.d 0 st.a.l (List.replicate (2^(st.a.d+1)) 0):=
  hC.mod (S:=[C.mb]) ((Mod.refl _ w1).ak (.inl (by simp)) _ _) (fun q hq dN=>by
   have:=List.mem_singleton.1 dN;simp at hq;rcases hq with e|e|e|e|e
   ·omega
   ·exact hmb q (vC q (by unfold dF.eF;simp[e])) (by simp[this])
   ·exact hmb q (vC q (by unfold dF.eF;simp[e])) (by simp[this])
   ·omega
   ·omega)
 have hdf:∀q,q∈({C.A with cb:=cb,fb:=fb,fe:=fe}:dF).eF (some (0,List.replicate (2^(st.a.d+1)) 0))↔q∈C.A.eF st.a.cop∨q=cb∨q=fb∨q=fe:=fun q=>by
  unfold dF.eF;rw[hc];simp;omega
 have hin:∀q,q∈iq ({C.A with cb:=cb,fb:=fb,fe:=fe}:dF) Fs {st.a with cop:=some (0,List.replicate (2^(st.a.d+1)) 0)}→q∈F∨w.heap.size≤q:=fun q hq=>by
  rcases aQ.1 hq with⟨i,hi,hq2⟩|hq2
  ·exact .inl (yM i hi q hq2)
  ·rcases(hdf q).1 hq2 with e|e|e|e
   ·exact .inl (vC q e)
   ·exact .inr (by omega)
   ·exact .inr (by omega)
   ·exact .inr (by omega)
 have hP:iZ W0 C.mb H ({C.A with cb:=cb,fb:=fb,fe:=fe}:dF) (w1.setCell ⟨C.mb,13,none⟩ (pQ cb)) Fs {st.a with cop:=some (0,List.replicate (2^(st.a.d+1)) 0)}:=
  ⟨fun i N hN=>⟨(hp.kR i N hN).1.mod hm (fun q hq=>hmb q (yM i (bG hN) q hq)),(hp.kR i N hN).2⟩,hC2.old,fun next lf he=>by
   have:=Option.some.inj he;cases this
   exact hC2,hp.sep,fun i hi q hq hq2=>by
   have hq':=yM i hi q hq;rcases(hdf q).1 hq2 with e|e|e|e
   ·exact hp.vP i hi q hq e
   ·have:=xR q hq';omega
   ·have:=xR q hq';omega
   ·have:=xR q hq';omega,fun q hq=>by
   rcases hin q hq with e|e
   ·exact hp.low q (hF▸e)
   ·have:=h.aF.env.size;omega,fun hq=>by
   rcases hin _ hq with e|e
   ·exact hmb _ e (by simp)
   ·omega,hp.xS⟩
 refine⟨_,h.upd {C.A with cb:=cb,fb:=fb,fe:=fe} C.v {st with a:={st.a with cop:=some (0,List.replicate (2^(st.a.d+1)) 0)}} hm (fun q hq=>bq.2 (.inl (List.mem_singleton.1 hq))) ((h.aF.aF.mod hm (fun q hq dN=>(h.aF.apart q hq).2.1 (List.mem_singleton.1 dN))).aae (fun id hid=> ?_)) ⟨Fs,rfl,hP⟩ ⟨rfl, ?_⟩ (lU (st:=st) h hm (fun q hq=> .inl (List.mem_singleton.1 hq))) h.pos hin (fun g hg=>⟨.inl hg,fun hh=>by have:=(h.row.lt g hg).2;omega⟩)⟩
 ·have hne:id≠32:=fun e=>zl (e▸hid);show C.A.val id=({C.A with cb:=cb,fb:=fb,fe:=fe}:dF).val id;unfold dF.val dF.ja;simp only;rw[if_neg hne,if_neg hne];rfl
 ·exact((Met.blk h.aF.met).mod (Mod.of_below hb []) (by simp)).ak 13 _
end
theorem Py {W0:World}{E:Nat→Addr}{P:MP}{α:Type}{jt:Nat→TypeId}{ja:Nat→Addr}{At:World→List Nat→α→Prop}{can:α→Nat→Prop}{left:α→Nat→Nat}{Stp:α→Nat→α→Prop}(HP:iT W0 E P jt ja At can left Stp)(s:SP)(F:List Nat)(K:Nat)(hK:1≤K∧K≤64)(hk:s.k=(K:Int))(b:Int)(ids:List Nat)(a:α)(x:bP)(own:Nat)(lD:own≤1000)(hval:∀id,s.val id= .iface (jt id) (.pointer (some (ja id))))(hcan:∀id∈ids,can a id∧id≤1000)(w:World)(h:bF W0 E P At s w F w b ids a F x):
  Calls Tryz.prog 119 #[eU s.sb,mU P,nI own] w fun e w'=>∃A cc e1 bZ a1 a2 F' x' b',e= .returned (.slice A (e1++gN left a2 bZ).length cc)∧w'.ownsRow w.heap.size 3 1 (.slice A (e1++gN left a2 bZ).length cc) (e1++gN left a2 bZ).length (dH (e1++gN left a2 bZ))∧vw left Stp ids own (8*K) a a1∧rY left Stp K ids a1 e1 bZ a2∧bF W0 E P At s w F w' b' (iG left a2 bZ) a2 F' x'∧dO x x' 0 (9*K)∧nM P s F' (.slice A (e1++gN left a2 bZ).length cc):=by
 by_cases hin:own∈ids
 ·exact Jm HP s F K hK hk b ids a x own lD hin hval hcan w h
 ·exact Hz HP s F K hK hk b ids a x own lD hin hval hcan w h
def Ad (W0:World)(E:Nat→Addr)(H:Nat→Nat)(C:iE)(w0:World)(G0:List Nat)(st:kS)(id:Nat)(w':World):Prop:=
 ∃(A':dF) (v':Value) (F':List Nat) (a':Pool) (aL:List Nat) (b':Int) (x':bP) (u:Nat),aag H C.K st.a st.ids id a' aL∧j5 a' aL []∧a'.ents.Perm st.a.ents∧aD W0 E H {C with A:=A',v:=v'} w0 G0 w' F' {st with a:=a',ids:=aL,b:=b',x:=x'}∧dO st.x x' 0 u
theorem Vr {l t:Int}{g lo gl:Nat}(h:jo l t g lo gl=0):fA l t g lo gl=false:=by
 unfold jo at h;unfold fA;split at h
 ·next h1=>rw[h1];rfl
 ·split at h
  ·cases h
  ·split at h
   ·cases h
   ·split at h<;>cases h
theorem ach {l t:Int}{g lo gl:Nat}(h:fA l t g lo gl=true):gl<5:=by
 unfold fA at h;simp at h;omega
theorem nW {W0:World}{E:Nat→Addr}{H:Nat→Nat}{C:iE}{w0:World}{G0:List Nat}{w:World}{F:List Nat}{st:kS}(h:aD W0 E H C w0 G0 w F st)(id:Nat)(N:Nd)(hN:st.a.Ns[id]?=some N)(hcp:Sy st.a st.ids id):Calls Tryz.prog 84 #[bg C.mb,nI id,aK (C.A.nb id)] w fun e w'=>e= .returned undef∧Ad W0 E H C w0 G0 st id w':=by
 have HC:=qd h;obtain⟨c0,c1,c11,c12,c13,c14,c15⟩:=HC.out.cells;have hid:=bG hN;have hbd:=h.bounds
 have lD:id≤1000:=by have:=hbd.2.1;omega
 have h32:id≠32:=by have:=hbd.2.1;omega
 have hO:=hbd.2.2.2 id N hN;obtain⟨Fs,hF,hpo⟩:=h.aF.pool;have CG:=qd (Kv C.A.db C.A.eb st.a.d st.a.l w hpo.dir);obtain⟨hnA,_⟩:=hpo.kR id N hN
 obtain⟨k,Om,hW,hcase⟩:∃(k:Nat) (Om:Bool),(Calls Tryz.prog 113 #[aK (C.A.nb id),nI st.a.d] w fun e w'=>e= .returned (.tuple #[nI k,.bool Om])∧Below w.heap.size w w')∧((N.ph.busy=true∧k=0∧Om=false)∨(N.ph= .idle∧jo N.T.live N.T.cK N.len N.au st.a.d=k∧fA N.T.live N.T.cK N.len N.au st.a.d=Om)):=by
  cases hb:N.ph.busy with
  |true=>
   exact⟨0,false,Lv st.a.d hnA hb,.inl ⟨rfl,rfl,rfl⟩⟩
  |false=>
   exact⟨_,_,Lx st.a.d hnA hO (QI hb),.inr ⟨QI hb,rfl,rfl⟩⟩
 have HW:=qd hW;have Vs:=qd hcase;have HO:=qd hO;have HN:=qd hN;have kH:=qd hcp;have nV:=qd hbd
 have af0:st.ids.length≤33:=by
  have hh:=Jo st.ids (List.range 33) hcp.nd (fun x hx=>by
   rw[List.mem_range];rcases(hcp.jg x).2 hx with⟨M,h1,_⟩|⟨_,h1,_⟩
   ·have:=bG h1;have h3:=hbd.2.1;omega
   ·omega)
  simpa using hh
 clear h hW hcase hO hN hcp hpo hF hnA hbd hid;unfold iL at CG;unfold aK at HW;unfold bg aK;go_in;go_wp2_with fail;refine CG.out.mono ?_;rintro x w1 ⟨rfl,rfl⟩;go_wp2_with fail;refine HW.out.mono ?_;rintro x w1 ⟨rfl,hb⟩;replace HC:=qd (HC.out.below hb);clear c0 c1 c11 c12 c13 c14 c15 CG HW hb;by_cases hk0:k=0
 focus
  subst hk0
  have hki:¬((0:Nat):Int)≠0:=by omega
  have hdb:Om=false:=by
   rcases Vs.out with⟨_,_,h1⟩|⟨_,h1,h2⟩
   ·exact h1
   ·rw[←h2];exact Vr h1
  subst hdb
  obtain⟨a1,bZ,F1,FN,hC1⟩:∃a1 bZ F1,zn st.a st.ids id a1 bZ∧(bZ=st.ids)∧aD W0 E H C w0 G0 w1 F1 {st with a:=a1,ids:=bZ}:=by
   rcases Vs.out with⟨h1,_,_⟩|⟨h1,h2,h3⟩
   ·exact⟨st.a,st.ids,F,.busy HN.out h1,rfl,HC.out⟩
   ·obtain⟨Fi,n1,n2,n3,n4,n5,n6⟩:=HC.out.node HN.out;obtain⟨F2,hf2⟩:=n6 w1 Fi [] {N with sl:=0} st.x n1 (aaR n2 h1 h2) (fun q hq=> .inl hq) HC.out.aF.met (Mod.refl _ _) (by simp);exact⟨_,st.ids,F2,.none HN.out h1 h2,rfl,hf2⟩
  obtain⟨aai,hC1⟩:=hC1;obtain⟨hsv,hd1,hl1,hc1,he1⟩:=QJ kH.out (fun M hM=>by rw[HN.out]at hM;cases hM;exact HO.out) FN;have sZ:=qd FN;obtain⟨a2,aO,A1,v1,x2,b2,ha2⟩:∃(a2:Pool) (aO:List Nat) (A1:dF) (v1:Value) (x2:bP) (b2:Int),a2=a1∧aO=bZ∧A1=C.A∧v1=C.v∧x2=st.x∧b2=st.b:=⟨_,_,_,_,_,_,rfl,rfl,rfl,rfl,rfl,rfl⟩;obtain⟨g1,g2,g3,g4,g5,g6⟩:=ha2;have tq:=qd (show Dg (Ol st.a id) a1 bZ a2 aO from by rw[g1,g2];exact .not);have yO:=qd (show Dh a2 aO id from by rw[g1,g2];exact hsv);have uR:=qd (show a2.ents=st.a.ents from by rw[g1];exact he1);have nX:=qd (show dO st.x x2 0 0 from by rw[g5];exact dO.refl _)
  have Sz:aO.length≤40:=by rw[g2,aai];omega
  obtain⟨V,hV⟩:∃V,V=w1:=⟨_,rfl⟩;have ru:=qd (show aD W0 E H {C with A:=A1,v:=v1} w0 G0 V F1 {st with a:=a2,ids:=aO,b:=b2,x:=x2} from by rw[g1,g2,g3,g4,g5,g6,hV];exact hC1);rw[←hV];clear HC hC1 hsv FN hd1 hl1 hc1 he1 g1 g2 g3 g4 g5 g6 aai hV Vs kH nV HO;have HC:=ru;clear ru;go_upto_region 7 with fail
 rotate_left
 focus
  have hki:¬(k:Int)=0:=by omega
  have hcs:N.ph= .idle∧jo N.T.live N.T.cK N.len N.au st.a.d=k∧fA N.T.live N.T.cK N.len N.au st.a.d=Om:=by
   rcases Vs.out with⟨_,h1,_⟩|h1
   ·exact absurd h1 hk0
   ·exact h1
  have Ig:=qd hcs;have FN:=zn.start (ids:=st.ids) HN.out hcs.1 hcs.2.1 hk0;obtain⟨hsv,hd1,hl1,hc1,he1⟩:=QJ kH.out (fun M hM=>by rw[HN.out]at hM;cases hM;exact HO.out) FN;have sZ:=qd FN;have yO:=qd hsv;have Jp:=qd he1;obtain⟨Fi,n1,n2,n3,n4,n5,n6⟩:=HC.out.node HN.out;have jy:=qd (Yj st.a.d k nV.out.1 n1 n2 hcs.1 hcs.2.1 hk0);have HX:=qd n6;have Dc:=qd n3;have BM:=qd n1.LX
  have aci:id∉st.ids:=fun hh=>by
   have h1:=(kH.out.jg id).2 hh;rw[FM HN.out,hcs.1]at h1;cases h1
  have HNi:=qd aci;have HOs:=qd (Ny n2 hcs.1 nV.out.1 hcs.2.1 hk0).1;clear hcs FN hsv hd1 hl1 hc1 he1 n1 n2 n3 n4 n5 n6 aci Vs;unfold aK at jy;go_wp2_with fail;refine jy.out.mono ?_;rintro x w2 ⟨rfl,F',q1,q2,q3⟩;obtain⟨F2,hf2⟩:=HX.out w2 F' _ _ st.x q1 HOs.out q2 (HC.out.aF.met.mod q3 (fun hq=>Dc.out (by rw[show C.mb=C.A.nb id from List.mem_singleton.1 hq];exact BM.out))) q3 (fun q hq=> .inr (by rw[List.mem_singleton.1 hq];exact BM.out));have ru:=qd hf2;clear hf2 q1 q2 q3 HC jy HX Dc BM HOs;go_wp2_with fail;refine(jA w2).mono ?_;rintro x w3 ⟨rfl,rfl⟩;have Oo:=qd (Oe ru.out id 120 ⟨C.A.nb id,0,none⟩ (by unfold dF.val dF.jt dF.ja;rw[if_neg h32,if_neg h32]) HNi.out lD (by show st.ids.length<40;omega));unfold bg at Oo;go_wp2_with fail;refine Oo.out.mono ?_;rintro x w4 ⟨rfl,h4⟩;have mW:=qd h4;clear h4 ru Oo HNi;cases hdv:Om
  case' false=>
   subst hdv;obtain⟨c0,c1,c11,c12,c13,c14,c15⟩:=mW.out.cells;go_upto_region 7 with fail;clear c0 c1 c11 c12 c13 c14 c15;obtain⟨a2,aO,A1,v1,x2,b2,F1,V,ha2⟩:∃(a2:Pool) (aO:List Nat) (A1:dF) (v1:Value) (x2:bP) (b2:Int) (F1:List Nat) (V:World),a2={st.a with Ns:=st.a.Ns.set id (N.start k)}∧aO=st.ids++[id]∧A1=C.A∧v1=C.v∧x2=st.x.add (cU 1) 1∧b2=st.b∧F1=F2∧V=w4:=⟨_,_,_,_,_,_,_,_,rfl,rfl,rfl,rfl,rfl,rfl,rfl,rfl⟩;obtain⟨g1,g2,g3,g4,g5,g6,g7,g8⟩:=ha2;obtain⟨a1,bZ,hg⟩:∃(a1:Pool) (bZ:List Nat),a1=a2∧bZ=aO:=⟨_,_,rfl,rfl⟩;obtain⟨g9,g10⟩:=hg;have tq:=qd (show Dg (Ol st.a id) a1 bZ a2 aO from by rw[g9,g10];exact .not);have Di:=qd (show zn st.a st.ids id a1 bZ from by rw[g9,g10,g1,g2];exact sZ.out);have Dj:=qd (show Dh a2 aO id from by rw[g1,g2];exact yO.out);have uR:=qd (show a2.ents=st.a.ents from by rw[g1];exact Jp.out);have nX:=qd (show dO st.x x2 0 1 from by rw[g5];exact rZ _ 1)
   have Sz:aO.length≤40:=by rw[g2,List.length_append,List.length_singleton];omega
   have iJ:=qd (show aD W0 E H {C with A:=A1,v:=v1} w0 G0 V F1 {st with a:=a2,ids:=aO,b:=b2,x:=x2} from by rw[g1,g2,g3,g4,g5,g6,g7,g8];exact mW.out);rw[←g8];clear mW sZ yO Jp g1 g2 g3 g4 g5 g6 g7 g8 g9 g10 Ig kH nV HO;have HC:=iJ;have sZ:=Di;have yO:=Dj;clear iJ Di Dj
  case' true=>
   cases FK:st.a.cop
   case' some cc=>
    subst hdv;obtain⟨c0,c1,c11,c12,c13,c14,c15⟩:=mW.out.cells
    have hcv:lF C.A st.a.cop=pQ C.A.cb:=by unfold lF;rw[FK];rfl
    have YC:w4.cell? ⟨C.mb,13,none⟩=some (pQ C.A.cb):=by rw[←hcv];exact c13
    clear c13 hcv;go_upto_region 7 with fail;clear c0 c1 c11 c12 YC c14 c15;obtain⟨a2,aO,A1,v1,x2,b2,F1,V,ha2⟩:∃(a2:Pool) (aO:List Nat) (A1:dF) (v1:Value) (x2:bP) (b2:Int) (F1:List Nat) (V:World),a2={st.a with Ns:=st.a.Ns.set id (N.start k)}∧aO=st.ids++[id]∧A1=C.A∧v1=C.v∧x2=st.x.add (cU 1) 1∧b2=st.b∧F1=F2∧V=w4:=⟨_,_,_,_,_,_,_,_,rfl,rfl,rfl,rfl,rfl,rfl,rfl,rfl⟩;obtain⟨g1,g2,g3,g4,g5,g6,g7,g8⟩:=ha2;obtain⟨a1,bZ,hg⟩:∃(a1:Pool) (bZ:List Nat),a1=a2∧bZ=aO:=⟨_,_,rfl,rfl⟩;obtain⟨g9,g10⟩:=hg;have tq:=qd (show Dg (Ol st.a id) a1 bZ a2 aO from by rw[g9,g10];exact .not);have Di:=qd (show zn st.a st.ids id a1 bZ from by rw[g9,g10,g1,g2];exact sZ.out);have Dj:=qd (show Dh a2 aO id from by rw[g1,g2];exact yO.out);have uR:=qd (show a2.ents=st.a.ents from by rw[g1];exact Jp.out);have nX:=qd (show dO st.x x2 0 1 from by rw[g5];exact rZ _ 1)
    have Sz:aO.length≤40:=by rw[g2,List.length_append,List.length_singleton];omega
    have iJ:=qd (show aD W0 E H {C with A:=A1,v:=v1} w0 G0 V F1 {st with a:=a2,ids:=aO,b:=b2,x:=x2} from by rw[g1,g2,g3,g4,g5,g6,g7,g8];exact mW.out);rw[←g8];clear mW sZ yO Jp g1 g2 g3 g4 g5 g6 g7 g8 g9 g10 Ig kH nV HO;have HC:=iJ;have sZ:=Di;have yO:=Dj;clear iJ Di Dj
   case' none=>
    subst hdv;obtain⟨c0,c1,c11,c12,c13,c14,c15⟩:=mW.out.cells
    have hcv:lF C.A st.a.cop= .pointer none:=by unfold lF;rw[FK];rfl
    have YC:w4.cell? ⟨C.mb,13,none⟩=some (.pointer none):=by rw[←hcv];exact c13
    have hd5:st.a.d<5:=ach Ig.out.2.2;have Ac:=qd FK;obtain⟨Fs4,hF4,hp4⟩:=mW.out.aF.pool;have jL:=qd (Po C.A.db C.A.eb st.a.d st.a.l hd5 w4 hp4.dir)
    have hn32:32∉st.ids++[id]:=fun hh=>by
     rcases List.mem_append.1 hh with h1|h1
     ·rcases(kH.out.jg 32).2 h1 with⟨M,h2,_⟩|⟨_,_,c,h2⟩
      ·have:=bG h2;have h3:=nV.out.2.1;omega
      ·rw[FK]at h2;cases h2
     ·exact h32 (List.mem_singleton.1 h1).symm
    have YD:=qd hn32;have HD5:=qd hd5;clear c13 hcv hF4 hp4 hn32 FK;unfold iL pU at jL;go_wp2_with fail;refine jL.out.mono ?_;rintro x w5 ⟨cb,fb,fe,rfl,Df,⟨z1,z2,z3⟩,hb5⟩;have xV:=qd Df;have KM:=qd hb5;have hB:=(Met.blk mW.out.aF.met).mod (Mod.of_below hb5 []) (by simp);have e13:w5.cell? ⟨C.mb,13,none⟩=some (lF C.A st.a.cop):=hB.cell 13;have g13:w5.frozen? ⟨C.mb,13,none⟩=false:=hB.frozen 13;clear c0 c1 c11 c12 YC c14 c15 hB Df hb5 jL;go_wp2_with fail;refine(XI (some ⟨cb,0,none⟩) w5).mono ?_;rintro x w6 ⟨rfl,rfl⟩;obtain⟨F6,vD⟩:=mW.out.double Ac.out xV.out z1 z2 z3 KM.out YD.out;go_upto_region 6 with fail;refine aZ (F:=fun v=>aD W0 E H {C with A:={C.A with cb:=cb,fb:=fb,fe:=fe},v:=C.v} w0 G0 v F6 {st with a:={st.a with Ns:=st.a.Ns.set id (N.start k),cop:=some (0,List.replicate (2^(st.a.d+1)) 0)},ids:=st.ids++[id],x:=st.x.add (cU 1) 1}) vD ?_;rintro w7 hC7;have Vp:=qd hC7;have k13:w7.cell? ⟨C.mb,13,none⟩=some (pQ cb):=Vp.out.cells.2.2.2.2.1;have Oo:=qd (Oe Vp.out 32 130 ⟨cb,0,none⟩ (by unfold dF.val dF.jt dF.ja;rw[if_pos rfl,if_pos rfl]) YD.out (by omega) (by show(st.ids++[id]).length<40;rw[List.length_append,List.length_singleton];omega));unfold bg at Oo;clear vD hC7 e13 g13 mW xV KM z1 z2 z3;go_wp2_with fail;refine Oo.out.mono ?_;rintro x w8 ⟨rfl,h8⟩;have HC8:=qd h8;clear h8 Oo Vp k13
    obtain⟨a2,aO,A1,v1,x2,b2,F1,V,ha2⟩:∃(a2:Pool) (aO:List Nat) (A1:dF) (v1:Value) (x2:bP) (b2:Int) (F1:List Nat) (V:World),a2={st.a with Ns:=st.a.Ns.set id (N.start k),cop:=some (0,List.replicate (2^(st.a.d+1)) 0)}∧aO=st.ids++[id]++[32]∧A1={C.A with cb:=cb,fb:=fb,fe:=fe}∧v1=C.v∧x2=(st.x.add (cU 1) 1).add (cU 1) 1∧b2=st.b∧F1=F6∧V=w8:=⟨_,_,_,_,_,_,_,_,rfl,rfl,rfl,rfl,rfl,rfl,rfl,rfl⟩;obtain⟨g1,g2,g3,g4,g5,g6,g7,g8⟩:=ha2;obtain⟨a1,bZ,hg⟩:∃(a1:Pool) (bZ:List Nat),a1={st.a with Ns:=st.a.Ns.set id (N.start k)}∧bZ=st.ids++[id]:=⟨_,_,rfl,rfl⟩;obtain⟨g9,g10⟩:=hg
    have hdb:Dg (Ol st.a id) a1 bZ a2 aO:=by rw[g9,g10,g1,g2];exact .yes ⟨N,HN.out,Ig.out.2.2⟩ Ac.out HD5.out
    have tq:=qd hdb;have Di:=qd (show zn st.a st.ids id a1 bZ from by rw[g9,g10];exact sZ.out);have Dj:=qd (aa5 (show Dh a1 bZ id from by rw[g9,g10];exact yO.out) (by rw[g9];simpa using nV.out.2.1) hdb).1;have uR:=qd (show a2.ents=st.a.ents from by rw[g1];exact Jp.out);have nX:=qd (show dO st.x x2 (0+0) (1+1)from by rw[g5];exact(rZ _ 1).trans (rZ _ 1))
    have Sz:aO.length≤40:=by rw[g2,List.length_append,List.length_append,List.length_singleton,List.length_singleton];omega
    have iJ:=qd (show aD W0 E H {C with A:=A1,v:=v1} w0 G0 V F1 {st with a:=a2,ids:=aO,b:=b2,x:=x2} from by rw[g1,g2,g3,g4,g5,g6,g7,g8];exact HC8.out);rw[←g8];clear HC8 sZ yO Jp g1 g2 g3 g4 g5 g6 g7 g8 g9 g10 hdb Ig kH nV HO Ac HD5 YD;have HC:=iJ;have sZ:=Di;have yO:=Dj;clear iJ Di Dj;go_upto_region 7 with fail
 all_goals
  have EM:=qd (HC.out.below (Below.refl V.heap.size V).drew);have e14:V.cell? ⟨C.mb,14,none⟩=some (pQ C.sb):=HC.out.cells.2.2.2.2.2.1;have hbd:=EM.out.bounds
  have ZH:=qd (Py EM.out.hp ({C with A:=A1,v:=v1}:iE).s F1 C.K EM.out.kk rfl b2 aO a2 x2 id lD (fun _=>rfl) (fun j hj=>⟨(yO.out.pre.jg j).2 hj,by
   rcases(yO.out.pre.jg j).2 hj with⟨M,h1,_⟩|⟨_,h1,_⟩
   ·have:=bG h1;have h3:=hbd.2.1;simp only at h3;omega
   ·omega⟩) (World.drew V) EM.out.aF)
  have HS2:=qd (show Calls Tryz.prog 119 #[pQ C.sb,.pointer (some ⟨C.mb,3,none⟩),nI id] (World.drew V) _ from ZH.out);clear ZH HC hbd;go_upto_region 7 with fail;refine rT (fun(w':World)=>w'.cell? ⟨C.mb,14,none⟩=some (pQ C.sb)) [8] ?_;have hHeld:=e14;refine vW 0 rfl ?_;refine vW 1 rfl ?_;refine vW 2 rfl ?_;refine vT 3 rfl ?_;refine vW 4 rfl ?_;refine vW 5 rfl ?_;refine vW 6 rfl ?_;refine vW 7 rfl ?_;refine vW 10 rfl ?_;refine nT 8 rfl fun K hK=> ?_;go_simp;refine(HS2.out).mono ?_;rintro y V2 ⟨A9,c9,e1,nN,a3,a4,F4,x4,b4,rfl,hrow,hown,hoth,hs,hco,hra⟩;obtain⟨acj,SA⟩:=aa6 EM.out.kk.1 yO.out hown hoth;have iJ:=qd (EM.out.served hs SA.len SA.cop);have qY:=qd acj;have gT:=qd hown;have EJ:=qd hoth;have xX:=qd (show a4.ents.Perm st.a.ents from by rw[←uR.out];exact SA.ents);have acn:=qd (nX.out.trans hco);obtain⟨pend,SB⟩:∃p,p=e1++gN Pool.left a4 nN:=⟨_,rfl⟩;rw[←SB]at hrow hra⊢;have HPe:=qd SB;have Ic:=qd hrow
  have QK:=qd (show∀g,(Value.slice A9 pend.length c9).ownBlock=some g→g∉({C with A:=A1,v:=v1}:iE).foot F4 from fun g hg hq=>by
   have hl:=(hrow.lt g hg);rcases bq.1 hq with h1|h1|h1|h1
   ·exact hra g hg (by rw[h1];exact List.mem_cons_self ..)
   ·exact hra g hg (List.mem_cons_of_mem _ (List.mem_append_left _ h1))
   ·exact hra g hg (List.mem_cons_of_mem _ (List.mem_append_right _ h1))
   ·have:=(EM.out.row.lt g h1).2;omega)
  obtain⟨bs,hbs⟩:∃bs,bs=(World.drew V).heap.size:=⟨_,rfl⟩;rw[←hbs]at Ic;clear hrow hown hoth hs hco hra acj SA SB HS2 EM yO uR nX hbs;go_wp2_with fail;refine kO hK ?_;clear hK K;refine vL 9 rfl ?_;refine aU (by kernel_rfl) ?_ _
  have hpl:pend.length≤40:=by
   have h1:=qX EJ.out;have h2:=congrArg List.length h1;rw[List.length_append]at h2;have h3:(gN Pool.left a4 nN).length≤nN.length:=List.length_filter_le _ _;rw[HPe.out,List.length_append];have h4:=Sz;omega
  clear e14;go_wp2;go_loopw [9,67] (fun _ v67 wr=>∃(i:Nat) (A':dF) (v':Value) (F':List Nat) (a':Pool) (x':bP) (u':Nat),i≤pend.length∧v67=nI i∧Hid (aD W0 E H {C with A:=A',v:=v'} w0 G0 wr F' {st with a:=a',ids:=iG Pool.left a4 nN,b:=b4,x:=x'})∧Hid (j5 a' (iG Pool.left a4 nN) (pend.drop i))∧Hid (∀c,xW H a' (pend.drop i) c→xW H a4 pend c)∧Hid (a'.ents.Perm st.a.ents)∧Hid (dO st.x x' 0 u')∧Hid (wr.ownsRow bs 3 1 (.slice A9 pend.length c9) pend.length (dH pend))∧Hid (∀g,(Value.slice A9 pend.length c9).ownBlock=some g→g∉({C with A:=A',v:=v'}:iE).foot F')) (fun _ v67 _=>pend.length-(intOf v67).toNat)
  case atStart=>exact⟨0,A1,v1,F4,a4,x4,_,by omega,rfl,iJ,qd (by rw[List.drop_zero,HPe.out];exact qY.out),qd (fun _ h=>h),xX,acn,Ic,QK⟩
  case round=>
   clear iJ qY xX acn Ic QK;obtain⟨i,A',v',F',a',x',u',hi,rfl,HC,qY,HEa,xX,nX,Ic,QK⟩:=hrel;by_cases hlt:i<pend.length
   ·have hlt':(i:Int)<(pend.length:Int):=by omega
    have hi0:(0:Int)≤(i:Int):=by omega
    have ab7:(i:Int)≤41:=by omega
    obtain⟨j,hj⟩:∃j,pend[i]?=some j:=⟨_,List.getElem?_eq_getElem hlt⟩;obtain⟨g,hA9,hge,hgl,hce,_⟩:=mP Ic.out hj;have EK:=qd (drop_cons hj);have HU:=qd (Db HC.out.again 1 (Nat.le_refl _));have HA9:=qd hA9;subst hA9;clear hj;go_wp2_with fail;refine HU.out.mono ?_;rintro y w1 ⟨rfl,h1⟩;have HR1:=qd (jJ Ic.out h1.mod (fun k hk=>QK.out k hk));have YE:=qd (show∀g',(Value.slice (some ⟨g,0,none⟩) pend.length c9).ownBlock=some g'→g'∉({C with A:=A',v:=v'}:iE).foot F' from QK.out);have sj:=qd (HC.out.chain h1);have FH:=qd (nX.out.trans (rZ _ 1))
    have hin:j5 a' (iG Pool.left a4 nN) (j::pend.drop (i+1)):=by rw[←EK.out];exact qY.out
    have hbd:=sj.out.bounds;have bJ:=qd (YB sj.out.again j (pend.drop (i+1)) hin);have aco:=qd (fun(b:Pool) (hb:A8 H a' j b)=>YA hin hb hbd.1 hbd.2.1 hbd.2.2.1);clear h1 hin HC Ic QK HU qY hce nX hbd;unfold bg at bJ;go_wp2_with fail;refine bJ.out.mono ?_;rintro y w2 ⟨rfl,A2,v2,F2,b2',x2',u2',hE,hC2,C8⟩;obtain⟨k1,k2,k3,k4,k5⟩:=aco.out b2' hE;have ru:=qd (sj.out.chain hC2);have HR2:=qd (jJ HR1.out hC2.mod (fun k hk=>YE.out k hk))
    have aeg:=qd (show∀g',(Value.slice (some ⟨g,0,none⟩) pend.length c9).ownBlock=some g'→g'∉({C with A:=A2,v:=v2}:iE).foot F2 from fun g' hg' hq=>by
     rcases hC2.sub g' hq with h1|h1
     ·exact YE.out g' hg' h1
     ·have:=(HR1.out.lt g' hg').2;omega)
    have HK1:=qd k1;have HK4:=qd (k4.trans xX.out);have aeh:=qd (fun c (hc:xW H b2' (pend.drop (i+1)) c)=>HEa.out c (by rw[EK.out];exact .cons hE hc));have NW:=qd (FH.out.trans C8);clear hE hC2 C8 k1 k2 k3 k4 k5 sj HR1 YE bJ aco HEa xX FH;go_wp2;go_roundw
    case rel=>exact⟨i+1,A2,v2,F2,b2',x2',_,by omega,by go_num,ru,HK1,aeh,HK4,NW,HR2,aeg⟩
    case measure=>simp[intOf];omega
   ·obtain rfl:i=pend.length:=by omega
    have hlt':¬(pend.length:Int)<(pend.length:Int):=by omega
    have hIn:=qY.out;have hEa:=HEa.out;rw[List.drop_length]at hIn hEa;have HEx:=qd (show Ad W0 E H C w0 G0 st id wr from⟨A',v',F',a',_,b4,x',u',⟨a1,bZ,a2,aO,a3,e1,nN,a4,sZ.out,tq.out,gT.out,EJ.out,by rw[←HPe.out];exact hEa a' (.nil a'),rfl⟩,hIn,xX.out,HC.out,nX.out⟩);clear hIn hEa;go_wp2;go_end0
    first|exact⟨rfl,HEx.out⟩|exact HEx.out
end Go.Proofs.YtkkibocdfijnhaaGreatDoor
