/- A core's maintain by its contract. -/
import Derived.Test.YtkddpchpcepjgaaGreatDoorCoCM
namespace Go.Proofs.YtkddpchpcepjgaaGreatDoor
set_option maxRecDepth 100000
set_option maxHeartbeats 8000000
open Go.RowKit cu
section
variable {W0 : World} {E : Nat -> Addr} {H : Nat -> Nat} {C : iW} {w0 : World} {G0 : List Nat} {w w' : World} {F : List Nat} {st : lX}
theorem aD.double (h:aD W0 E H C w0 G0 w F st){cb fb fe:Nat}{w1:World}(hc:st.a.cop=none)(hC:jO w1 cb C.A.db C.A.eb fb fe st.a.d 0 st.a.l (List.replicate (2^(st.a.d+1)) 0))(h1:w.heap.size<=cb)(h2:w.heap.size<=fb)(h3:w.heap.size<=fe)(hb:Below w.heap.size w w1)(Ay:32∉st.ids):
  ∃F',aD W0 E H {C with A:={C.A with cb:=cb,fb:=fb,fe:=fe},v:=C.v} w0 G0 (w1.setCell ⟨C.mb,13,none⟩ (pQ cb)) F' {st with a:={st.a with cop:=some (0,List.replicate (2^(st.a.d+1)) 0)}}:=by
 obtain⟨Fs,hF,hp⟩:=h.aF.pool;have hml:C.mb<w.heap.size:=h.aF.met.lt;have hm:Mod [C.mb] w (w1.setCell ⟨C.mb,13,none⟩ (pQ cb)):=(Mod.of_below hb [C.mb]).ak (.inl (by simp)) _ _;have hmb:∀q∈F,q∉[C.mb]:=λq hq e=>h.hp.mb h.aF.pool (by show C.mb∈F;rw[<-zj.1 e];exact hq);have hlts:=h.fC;have zi:∀q∈F,q<w.heap.size:=λq hq=>hlts q (bB.2 (.inr (.inr (.inl hq))));have zR:∀i,i<st.a.Ns.length->∀q∈Fs i,q∈F:=λi hi q hq=>hF▸aR.2 (.inl ⟨i,hi,hq⟩);have wS:∀q∈C.A.eP st.a.cop,q∈F:=λq hq=>hF▸aR.2 (.inr hq)
 have hC2:jO (w1.setCell ⟨C.mb,13,none⟩ (pQ cb)) cb C.A.db C.A.eb fb fe st.a.d 0 st.a.l (List.replicate (2^(st.a.d+1)) 0):=
  hC.mod (S:=[C.mb]) ((Mod.refl _ w1).ak (.inl (by simp)) _ _) (λq hq dS=>by
   have:=zj.1 dS;simp at hq;rcases hq with e|e|e|e|e
   ·omega
   ·exact hmb q (wS q (by unfold dI.eP;simp[e])) (by simp[this])
   ·exact hmb q (wS q (by unfold dI.eP;simp[e])) (by simp[this])
   ·omega
   ·omega)
 have hdf:∀q,q∈({C.A with cb:=cb,fb:=fb,fe:=fe}:dI).eP (some (0,List.replicate (2^(st.a.d+1)) 0))↔q∈C.A.eP st.a.cop\/q=cb\/q=fb\/q=fe:=λq=>by
  unfold dI.eP;rw[hc];simp;omega
 have hin:∀q,q∈iM ({C.A with cb:=cb,fb:=fb,fe:=fe}:dI) Fs {st.a with cop:=some (0,List.replicate (2^(st.a.d+1)) 0)}->q∈F\/w.heap.size<=q:=λq hq=>by
  rcases aR.1 hq with⟨i,hi,hq2⟩|hq2
  ·exact .inl (zR i hi q hq2)
  ·rcases(hdf q).1 hq2 with e|e|e|e
   ·exact .inl (wS q e)
   ·exact .inr (by omega)
   ·exact .inr (by omega)
   ·exact .inr (by omega)
 have hP:jD W0 C.mb H ({C.A with cb:=cb,fb:=fb,fe:=fe}:dI) (w1.setCell ⟨C.mb,13,none⟩ (pQ cb)) Fs {st.a with cop:=some (0,List.replicate (2^(st.a.d+1)) 0)}:=
  ⟨λi N hN=>⟨(hp.lW i N hN).1.mod hm (λq hq=>hmb q (zR i (bJ hN) q hq)),(hp.lW i N hN).2⟩,hC2.old,λnext lf he=>by
   have:=QP he;cases this
   exact hC2,hp.sep,λi hi q hq hq2=>by
   have hq':=zR i hi q hq;rcases(hdf q).1 hq2 with e|e|e|e
   ·exact hp.xB i hi q hq e
   ·have:=zi q hq';omega
   ·have:=zi q hq';omega
   ·have:=zi q hq';omega,λq hq=>by
   rcases hin q hq with e|e
   ·exact hp.low q (hF▸e)
   ·have:=h.aF.env.size;omega,λhq=>by
   rcases hin _ hq with e|e
   ·exact hmb _ e (by simp)
   ·omega,hp.zk⟩
 refine⟨_,h.upd {C.A with cb:=cb,fb:=fb,fe:=fe} C.v {st with a:={st.a with cop:=some (0,List.replicate (2^(st.a.d+1)) 0)}} hm (λq hq=>bB.2 (.inl (zj.1 hq))) ((h.aF.aF.mod hm (λq hq dS=>(h.aF.apart q hq).2.1 (zj.1 dS))).acp (λid hid=> ?_)) ⟨Fs,rfl,hP⟩ ⟨rfl, ?_⟩ (mZ (st:=st) h hm (λq hq=> .inl (zj.1 hq))) h.pos hin (λg hg=>⟨.inl hg,λhh=>by have:=(h.row.lt g hg).2;omega⟩)⟩
 ·have hne:id≠32:=λe=>Ay (e▸hid);show C.A.val id=({C.A with cb:=cb,fb:=fb,fe:=fe}:dI).val id;unfold dI.val dI.ja;simp only;rw[if_neg hne,if_neg hne];rfl
 ·exact((Met.blk h.aF.met).mod (Mod.of_below hb []) (by simp)).ak 13 _
end
theorem RQ {W0:World}{E:Nat->Addr}{P:MP}{α:Type}{jt:Nat->TypeId}{ja:Nat->Addr}{At:World->List Nat->α->Prop}{can:α->Nat->Prop}{left:α->Nat->Nat}{Stp:α->Nat->α->Prop}(HP:jk W0 E P jt ja At can left Stp)(s:SP)(F:List Nat)(K:Nat)(hK:1<=K/\K<=64)(hk:s.k=(K:Int))(b:Int)(ids:List Nat)(a:α)(x:bS)(own:Nat)(mH:own<=1000)(hval:∀id,s.val id= .iface (jt id) (.pointer (some (ja id))))(hcan:∀id∈ids,can a id/\id<=1000)(w:World)(h:bH W0 E P At s w F w b ids a F x):
  Calls Tryz.prog 131 #[fD s.sb,nX P,nI own] w λe w'=>∃A cc e1 bZ a1 a2 F' x' b',e= .returned (.slice A (e1++iw left a2 bZ).length cc)/\w'.ownsRow w.heap.size 3 1 (.slice A (e1++iw left a2 bZ).length cc) (e1++iw left a2 bZ).length (dK (e1++iw left a2 bZ))/\wQ left Stp ids own (8*K) a a1/\tY left Stp K ids a1 e1 bZ a2/\bH W0 E P At s w F w' b' (iZ left a2 bZ) a2 F' x'/\dU x x' 0 (9*K)/\oN P s F' (.slice A (e1++iw left a2 bZ).length cc):=by
 by_cases hin:own∈ids
 ·exact KT HP s F K hK hk b ids a x own mH hin hval hcan w h
 ·exact JI HP s F K hK hk b ids a x own mH hin hval hcan w h
def BH (W0:World)(E:Nat->Addr)(H:Nat->Nat)(C:iW)(w0:World)(G0:List Nat)(st:lX)(id:Nat)(w':World):Prop:=
 ∃(A':dI) (v':Value) (F':List Nat) (a':Pool) (aL:List Nat) (b':Int) (x':bS) (u:Nat),acs H C.K st.a st.ids id a' aL/\kX a' aL []/\a'.ents.Perm st.a.ents/\aD W0 E H {C with A:=A',v:=v'} w0 G0 w' F' {st with a:=a',ids:=aL,b:=b',x:=x'}/\dU st.x x' 0 u
theorem X8 {l t:Int}{g lo gl:Nat}(h:jR l t g lo gl=0):fI l t g lo gl=false:=by
 unfold jR at h;unfold fI;split at h
 ·next h1=>rw[h1];rfl
 ·split at h
  ·cases h
  ·split at h
   ·cases h
   ·split at h<;>cases h
theorem aew {l t:Int}{g lo gl:Nat}(h:fI l t g lo gl=true):gl<5:=by
 unfold fI at h;simp at h;omega
theorem o7 {W0:World}{E:Nat->Addr}{H:Nat->Nat}{C:iW}{w0:World}{G0:List Nat}{w:World}{F:List Nat}{st:lX}(h:aD W0 E H C w0 G0 w F st)(id:Nat)(N:Nd)(hN:st.a.Ns[id]?=some N)(hcp:Vr st.a st.ids id):Calls Tryz.prog 96 #[bg C.mb,nI id,aK (C.A.nb id)] w λe w'=>e= .returned undef/\BH W0 E H C w0 G0 st id w':=by
 have HC:=qd h;obtain⟨c0,c1,c11,c12,c13,c14,c15⟩:=HC.o.cells;have hid:=bJ hN;have hbd:=h.bounds
 have mH:id<=1000:=by have:=hbd.2.1;omega
 have h32:id≠32:=by have:=hbd.2.1;omega
 have hO:=hbd.2.2.2 id N hN;obtain⟨Fs,hF,hpo⟩:=h.aF.pool;have Ed:=qd (Mt C.A.db C.A.eb st.a.d st.a.l w hpo.dir);obtain⟨hnA,_⟩:=hpo.lW id N hN
 obtain⟨k,Qs,hW,hcase⟩:∃(k:Nat) (Qs:Bool),(Calls Tryz.prog 125 #[aK (C.A.nb id),nI st.a.d] w λe w'=>e= .returned (.tuple #[nI k,.bool Qs])/\Below w.heap.size w w')/\((N.ph.busy=true/\k=0/\Qs=false)\/(N.ph= .idle/\jR N.T.live N.T.dh N.len N.au st.a.d=k/\fI N.T.live N.T.dh N.len N.au st.a.d=Qs)):=by
  cases hb:N.ph.busy with
  |true=>
   exact⟨0,false,NR st.a.d hnA hb,.inl ⟨rfl,rfl,rfl⟩⟩
  |false=>
   exact⟨_,_,NS st.a.d hnA hO (TA hb),.inr ⟨TA hb,rfl,rfl⟩⟩
 have HW:=qd hW;have X9:=qd hcase;have HO:=qd hO;have HN:=qd hN;have lK:=qd hcp;have oW:=qd hbd
 have ait:st.ids.length<=33:=by
  have hh:=KU st.ids (List.range 33) hcp.nd (λx hx=>by
   rw[va];rcases(hcp.jL x).2 hx with⟨M,h1,_⟩|⟨_,h1,_⟩
   ·have:=bJ h1;have h3:=hbd.2.1;omega
   ·omega)
  simpa using hh
 clear h hW hcase hO hN hcp hpo hF hnA hbd hid;unfold jf at Ed;unfold aK at HW;unfold bg aK;go_in;go_wp2_with fail;refine Ed.o.mono ?_;rintro x w1 ⟨rfl,rfl⟩;go_wp2_with fail;refine HW.o.mono ?_;rintro x w1 ⟨rfl,hb⟩;replace HC:=qd (HC.o.below hb);clear c0 c1 c11 c12 c13 c14 c15 Ed HW hb;by_cases hk0:k=0
 focus
  subst hk0
  have hki:¬((0:Nat):Int)≠0:=by omega
  have hdb:Qs=false:=by
   rcases X9.o with⟨_,_,h1⟩|⟨_,h1,h2⟩
   ·exact h1
   ·rw[<-h2];exact X8 h1
  subst hdb
  obtain⟨a1,bZ,F1,Ig,hC1⟩:∃a1 bZ F1,AA st.a st.ids id a1 bZ/\(bZ=st.ids)/\aD W0 E H C w0 G0 w1 F1 {st with a:=a1,ids:=bZ}:=by
   rcases X9.o with⟨h1,_,_⟩|⟨h1,h2,h3⟩
   ·exact⟨st.a,st.ids,F,.busy HN.o h1,rfl,HC.o⟩
   ·obtain⟨Fi,n1,n2,n3,n4,n5,n6⟩:=HC.o.node HN.o;obtain⟨F2,hf2⟩:=n6 w1 Fi [] {N with sl:=0} st.x n1 (ac3 n2 h1 h2) (λq hq=> .inl hq) HC.o.aF.met (Mod.refl _ _) (by simp);exact⟨_,st.ids,F2,.none HN.o h1 h2,rfl,hf2⟩
  obtain⟨acv,hC1⟩:=hC1;obtain⟨hsv,hd1,hl1,hc1,he1⟩:=TB lK.o (λM hM=>by rw[HN.o]at hM;cases hM;exact HO.o) Ig;have oD:=qd Ig;obtain⟨a2,aO,A1,v1,x2,b2,ha2⟩:∃(a2:Pool) (aO:List Nat) (A1:dI) (v1:Value) (x2:bS) (b2:Int),a2=a1/\aO=bZ/\A1=C.A/\v1=C.v/\x2=st.x/\b2=st.b:=⟨_,_,_,_,_,_,rfl,rfl,rfl,rfl,rfl,rfl⟩;obtain⟨g1,g2,g3,g4,g5,g6⟩:=ha2;have uT:=qd (show EB (Qr st.a id) a1 bZ a2 aO from by rw[g1,g2];exact .not);have zS:=qd (show EC a2 aO id from by rw[g1,g2];exact hsv);have rX:=qd (show a2.ents=st.a.ents from by rw[g1];exact he1);have o8:=qd (show dU st.x x2 0 0 from by rw[g5];exact dU.refl _)
  have Vs:aO.length<=40:=by rw[g2,acv];omega
  obtain⟨V,hV⟩:∃V,V=w1:=⟨_,rfl⟩;have sO:=qd (show aD W0 E H {C with A:=A1,v:=v1} w0 G0 V F1 {st with a:=a2,ids:=aO,b:=b2,x:=x2} from by rw[g1,g2,g3,g4,g5,g6,hV];exact hC1);rw[<-hV];clear HC hC1 hsv Ig hd1 hl1 hc1 he1 g1 g2 g3 g4 g5 g6 acv hV X9 lK oW HO;have HC:=sO;clear sO;go_upto_region 7 with fail
 rotate_left
 focus
  have hki:¬(k:Int)=0:=by omega
  have hcs:N.ph= .idle/\jR N.T.live N.T.dh N.len N.au st.a.d=k/\fI N.T.live N.T.dh N.len N.au st.a.d=Qs:=by
   rcases X9.o with⟨_,h1,_⟩|h1
   ·exact absurd h1 hk0
   ·exact h1
  have JQ:=qd hcs;have Ig:=AA.start (ids:=st.ids) HN.o hcs.1 hcs.2.1 hk0;obtain⟨hsv,hd1,hl1,hc1,he1⟩:=TB lK.o (λM hM=>by rw[HN.o]at hM;cases hM;exact HO.o) Ig;have oD:=qd Ig;have zS:=qd hsv;have KV:=qd he1;obtain⟨Fi,n1,n2,n3,n4,n5,n6⟩:=HC.o.node HN.o;have iV:=qd (aaV st.a.d k oW.o.1 n1 n2 hcs.1 hcs.2.1 hk0);have HX:=qd n6;have uV:=qd n3;have JR:=qd n1.Og
  have aex:id∉st.ids:=λhh=>by
   have h1:=(lK.o.jL id).2 hh;rw[Ie HN.o,hcs.1]at h1;cases h1
  have HNi:=qd aex;have HOs:=qd (PE n2 hcs.1 oW.o.1 hcs.2.1 hk0).1;clear hcs Ig hsv hd1 hl1 hc1 he1 n1 n2 n3 n4 n5 n6 aex X9;unfold aK at iV;go_wp2_with fail;refine iV.o.mono ?_;rintro x w2 ⟨rfl,F',q1,q2,q3⟩;obtain⟨F2,hf2⟩:=HX.o w2 F' _ _ st.x q1 HOs.o q2 (HC.o.aF.met.mod q3 (λhq=>uV.o (by rw[show C.mb=C.A.nb id from zj.1 hq];exact JR.o))) q3 (λq hq=> .inr (by rw[zj.1 hq];exact JR.o));have sO:=qd hf2;clear hf2 q1 q2 q3 HC iV HX uV JR HOs;go_wp2_with fail;refine(jV w2).mono ?_;rintro x w3 ⟨rfl,rfl⟩;have Qt:=qd (Ql sO.o id 126 ⟨C.A.nb id,0,none⟩ (by unfold dI.val dI.jt dI.ja;rw[if_neg h32,if_neg h32]) HNi.o mH (by show st.ids.length<40;omega));unfold bg at Qt;go_wp2_with fail;refine Qt.o.mono ?_;rintro x w4 ⟨rfl,h4⟩;have nZ:=qd h4;clear h4 sO Qt HNi;cases hdv:Qs
  case' false=>
   subst hdv;obtain⟨c0,c1,c11,c12,c13,c14,c15⟩:=nZ.o.cells;go_upto_region 7 with fail;clear c0 c1 c11 c12 c13 c14 c15;obtain⟨a2,aO,A1,v1,x2,b2,F1,V,ha2⟩:∃(a2:Pool) (aO:List Nat) (A1:dI) (v1:Value) (x2:bS) (b2:Int) (F1:List Nat) (V:World),a2={st.a with Ns:=st.a.Ns.set id (N.start k)}/\aO=st.ids++[id]/\A1=C.A/\v1=C.v/\x2=st.x.add (cU 1) 1/\b2=st.b/\F1=F2/\V=w4:=⟨_,_,_,_,_,_,_,_,rfl,rfl,rfl,rfl,rfl,rfl,rfl,rfl⟩;obtain⟨g1,g2,g3,g4,g5,g6,g7,g8⟩:=ha2;obtain⟨a1,bZ,hg⟩:∃(a1:Pool) (bZ:List Nat),a1=a2/\bZ=aO:=⟨_,_,rfl,rfl⟩;obtain⟨g9,g10⟩:=hg;have uT:=qd (show EB (Qr st.a id) a1 bZ a2 aO from by rw[g9,g10];exact .not);have ED:=qd (show AA st.a st.ids id a1 bZ from by rw[g9,g10,g1,g2];exact oD.o);have EF:=qd (show EC a2 aO id from by rw[g1,g2];exact zS.o);have rX:=qd (show a2.ents=st.a.ents from by rw[g1];exact KV.o);have o8:=qd (show dU st.x x2 0 1 from by rw[g5];exact tZ _ 1)
   have Vs:aO.length<=40:=by rw[g2,ZD,xl];omega
   have jd:=qd (show aD W0 E H {C with A:=A1,v:=v1} w0 G0 V F1 {st with a:=a2,ids:=aO,b:=b2,x:=x2} from by rw[g1,g2,g3,g4,g5,g6,g7,g8];exact nZ.o);rw[<-g8];clear nZ oD zS KV g1 g2 g3 g4 g5 g6 g7 g8 g9 g10 JQ lK oW HO;have HC:=jd;have oD:=ED;have zS:=EF;clear jd ED EF
  case' true=>
   cases Ib:st.a.cop
   case' some cc=>
    subst hdv;obtain⟨c0,c1,c11,c12,c13,c14,c15⟩:=nZ.o.cells
    have hcv:mI C.A st.a.cop=pQ C.A.cb:=by unfold mI;rw[Ib];rfl
    have abf:w4.cell? ⟨C.mb,13,none⟩=some (pQ C.A.cb):=by rw[<-hcv];exact c13
    clear c13 hcv;go_upto_region 7 with fail;clear c0 c1 c11 c12 abf c14 c15;obtain⟨a2,aO,A1,v1,x2,b2,F1,V,ha2⟩:∃(a2:Pool) (aO:List Nat) (A1:dI) (v1:Value) (x2:bS) (b2:Int) (F1:List Nat) (V:World),a2={st.a with Ns:=st.a.Ns.set id (N.start k)}/\aO=st.ids++[id]/\A1=C.A/\v1=C.v/\x2=st.x.add (cU 1) 1/\b2=st.b/\F1=F2/\V=w4:=⟨_,_,_,_,_,_,_,_,rfl,rfl,rfl,rfl,rfl,rfl,rfl,rfl⟩;obtain⟨g1,g2,g3,g4,g5,g6,g7,g8⟩:=ha2;obtain⟨a1,bZ,hg⟩:∃(a1:Pool) (bZ:List Nat),a1=a2/\bZ=aO:=⟨_,_,rfl,rfl⟩;obtain⟨g9,g10⟩:=hg;have uT:=qd (show EB (Qr st.a id) a1 bZ a2 aO from by rw[g9,g10];exact .not);have ED:=qd (show AA st.a st.ids id a1 bZ from by rw[g9,g10,g1,g2];exact oD.o);have EF:=qd (show EC a2 aO id from by rw[g1,g2];exact zS.o);have rX:=qd (show a2.ents=st.a.ents from by rw[g1];exact KV.o);have o8:=qd (show dU st.x x2 0 1 from by rw[g5];exact tZ _ 1)
    have Vs:aO.length<=40:=by rw[g2,ZD,xl];omega
    have jd:=qd (show aD W0 E H {C with A:=A1,v:=v1} w0 G0 V F1 {st with a:=a2,ids:=aO,b:=b2,x:=x2} from by rw[g1,g2,g3,g4,g5,g6,g7,g8];exact nZ.o);rw[<-g8];clear nZ oD zS KV g1 g2 g3 g4 g5 g6 g7 g8 g9 g10 JQ lK oW HO;have HC:=jd;have oD:=ED;have zS:=EF;clear jd ED EF
   case' none=>
    subst hdv;obtain⟨c0,c1,c11,c12,c13,c14,c15⟩:=nZ.o.cells
    have hcv:mI C.A st.a.cop= .pointer none:=by unfold mI;rw[Ib];rfl
    have abf:w4.cell? ⟨C.mb,13,none⟩=some (.pointer none):=by rw[<-hcv];exact c13
    have hd5:st.a.d<5:=aew JQ.o.2.2;have BG:=qd Ib;obtain⟨Fs4,hF4,hp4⟩:=nZ.o.aF.pool;have jJ:=qd (RI C.A.db C.A.eb st.a.d st.a.l hd5 w4 hp4.dir)
    have hn32:32∉st.ids++[id]:=λhh=>by
     rcases Zs.1 hh with h1|h1
     ·rcases(lK.o.jL 32).2 h1 with⟨M,h2,_⟩|⟨_,_,c,h2⟩
      ·have:=bJ h2;have h3:=oW.o.2.1;omega
      ·rw[Ib]at h2;cases h2
     ·exact h32 (zj.1 h1).symm
    have abg:=qd hn32;have HD5:=qd hd5;clear c13 hcv hF4 hp4 hn32 Ib;unfold jf qR at jJ;go_wp2_with fail;refine jJ.o.mono ?_;rintro x w5 ⟨cb,fb,fe,rfl,EA,⟨z1,z2,z3⟩,hb5⟩;have zm:=qd EA;have EG:=qd hb5;have hB:=(Met.blk nZ.o.aF.met).mod (Mod.of_below hb5 []) (by simp);have e13:w5.cell? ⟨C.mb,13,none⟩=some (mI C.A st.a.cop):=hB.cell 13;have g13:w5.frozen? ⟨C.mb,13,none⟩=false:=hB.frozen 13;clear c0 c1 c11 c12 abf c14 c15 hB EA hb5 jJ;go_wp2_with fail;refine(aap (some ⟨cb,0,none⟩) w5).mono ?_;rintro x w6 ⟨rfl,rfl⟩;obtain⟨F6,wT⟩:=nZ.o.double BG.o zm.o z1 z2 z3 EG.o abg.o;go_upto_region 6 with fail;refine aY (F:=λv=>aD W0 E H {C with A:={C.A with cb:=cb,fb:=fb,fe:=fe},v:=C.v} w0 G0 v F6 {st with a:={st.a with Ns:=st.a.Ns.set id (N.start k),cop:=some (0,List.replicate (2^(st.a.d+1)) 0)},ids:=st.ids++[id],x:=st.x.add (cU 1) 1}) wT ?_;rintro w7 hC7;have X6:=qd hC7;have k13:w7.cell? ⟨C.mb,13,none⟩=some (pQ cb):=X6.o.cells.2.2.2.2.1;have Qt:=qd (Ql X6.o 32 136 ⟨cb,0,none⟩ (by unfold dI.val dI.jt dI.ja;rw[if_pos rfl,if_pos rfl]) abg.o (by omega) (by show(st.ids++[id]).length<40;rw[ZD,xl];omega));unfold bg at Qt;clear wT hC7 e13 g13 nZ zm EG z1 z2 z3;go_wp2_with fail;refine Qt.o.mono ?_;rintro x w8 ⟨rfl,h8⟩;have HC8:=qd h8;clear h8 Qt X6 k13
    obtain⟨a2,aO,A1,v1,x2,b2,F1,V,ha2⟩:∃(a2:Pool) (aO:List Nat) (A1:dI) (v1:Value) (x2:bS) (b2:Int) (F1:List Nat) (V:World),a2={st.a with Ns:=st.a.Ns.set id (N.start k),cop:=some (0,List.replicate (2^(st.a.d+1)) 0)}/\aO=st.ids++[id]++[32]/\A1={C.A with cb:=cb,fb:=fb,fe:=fe}/\v1=C.v/\x2=(st.x.add (cU 1) 1).add (cU 1) 1/\b2=st.b/\F1=F6/\V=w8:=⟨_,_,_,_,_,_,_,_,rfl,rfl,rfl,rfl,rfl,rfl,rfl,rfl⟩;obtain⟨g1,g2,g3,g4,g5,g6,g7,g8⟩:=ha2;obtain⟨a1,bZ,hg⟩:∃(a1:Pool) (bZ:List Nat),a1={st.a with Ns:=st.a.Ns.set id (N.start k)}/\bZ=st.ids++[id]:=⟨_,_,rfl,rfl⟩;obtain⟨g9,g10⟩:=hg
    have hdb:EB (Qr st.a id) a1 bZ a2 aO:=by rw[g9,g10,g1,g2];exact .yes ⟨N,HN.o,JQ.o.2.2⟩ BG.o HD5.o
    have uT:=qd hdb;have ED:=qd (show AA st.a st.ids id a1 bZ from by rw[g9,g10];exact oD.o);have EF:=qd (adj (show EC a1 bZ id from by rw[g9,g10];exact zS.o) (by rw[g9];simpa using oW.o.2.1) hdb).1;have rX:=qd (show a2.ents=st.a.ents from by rw[g1];exact KV.o);have o8:=qd (show dU st.x x2 (0+0) (1+1)from by rw[g5];exact(tZ _ 1).trans (tZ _ 1))
    have Vs:aO.length<=40:=by rw[g2,ZD,ZD,xl,xl];omega
    have jd:=qd (show aD W0 E H {C with A:=A1,v:=v1} w0 G0 V F1 {st with a:=a2,ids:=aO,b:=b2,x:=x2} from by rw[g1,g2,g3,g4,g5,g6,g7,g8];exact HC8.o);rw[<-g8];clear HC8 oD zS KV g1 g2 g3 g4 g5 g6 g7 g8 g9 g10 hdb JQ lK oW HO BG HD5 abg;have HC:=jd;have oD:=ED;have zS:=EF;clear jd ED EF;go_upto_region 7 with fail
 all_goals
  have Gu:=qd (HC.o.below (Below.refl V.heap.size V).drew);have e14:V.cell? ⟨C.mb,14,none⟩=some (pQ C.sb):=HC.o.cells.2.2.2.2.2.1;have hbd:=Gu.o.bounds
  have HSe:=qd (RQ Gu.o.hp ({C with A:=A1,v:=v1}:iW).s F1 C.K Gu.o.kk rfl b2 aO a2 x2 id mH (λ_=>rfl) (λj hj=>⟨(zS.o.pre.jL j).2 hj,by
   rcases(zS.o.pre.jL j).2 hj with⟨M,h1,_⟩|⟨_,h1,_⟩
   ·have:=bJ h1;have h3:=hbd.2.1;simp only at h3;omega
   ·omega⟩) (World.drew V) Gu.o.aF)
  have HS2:=qd (show Calls Tryz.prog 131 #[pQ C.sb,.pointer (some ⟨C.mb,3,none⟩),nI id] (World.drew V) _ from HSe.o);clear HSe HC hbd;go_upto_region 7 with fail;refine rT (λ(w':World)=>w'.cell? ⟨C.mb,14,none⟩=some (pQ C.sb)) [8] ?_;have hHeld:=e14;refine vW 0 rfl ?_;refine vW 1 rfl ?_;refine vW 2 rfl ?_;refine vT 3 rfl ?_;refine vW 4 rfl ?_;refine vW 5 rfl ?_;refine vW 6 rfl ?_;refine vW 7 rfl ?_;refine vW 10 rfl ?_;refine nT 8 rfl λK hK=> ?_;go_simp;refine(HS2.o).mono ?_;rintro y V2 ⟨A9,c9,e1,oO,a3,a4,F4,x4,b4,rfl,hrow,hown,hoth,hs,hco,hra⟩;obtain⟨aey,Vt⟩:=adk Gu.o.kk.1 zS.o hown hoth;have jd:=qd (Gu.o.served hs Vt.len Vt.cop);have nD:=qd aey;have iB:=qd hown;have Gr:=qd hoth;have zo:=qd (show a4.ents.Perm st.a.ents from by rw[<-rX.o];exact Vt.ents);have aez:=qd (o8.o.trans hco);obtain⟨pend,Vu⟩:∃p,p=e1++iw Pool.left a4 oO:=⟨_,rfl⟩;rw[<-Vu]at hrow hra|-;have HPe:=qd Vu;have JN:=qd hrow
  have TD:=qd (show∀g,(Value.slice A9 pend.length c9).ownBlock=some g->g∉({C with A:=A1,v:=v1}:iW).foot F4 from λg hg hq=>by
   have hl:=(hrow.lt g hg);rcases bB.1 hq with h1|h1|h1|h1
   ·exact hra g hg (by rw[h1];exact List.mem_cons_self ..)
   ·exact hra g hg (qu _ (yi _ h1))
   ·exact hra g hg (qu _ (jj _ h1))
   ·have:=(Gu.o.row.lt g h1).2;omega)
  obtain⟨bs,hbs⟩:∃bs,bs=(World.drew V).heap.size:=⟨_,rfl⟩;rw[<-hbs]at JN;clear hrow hown hoth hs hco hra aey Vt Vu HS2 Gu zS rX o8 hbs;go_wp2_with fail;refine kO hK ?_;clear hK K;refine vL 9 rfl ?_;refine aV (by kernel_rfl) ?_ _
  have hpl:pend.length<=40:=by
   have h1:=sM Gr.o;have h2:=congrArg List.length h1;rw[ZD]at h2;have h3:(iw Pool.left a4 oO).length<=oO.length:=List.length_filter_le _ _;rw[HPe.o,ZD];have h4:=Vs;omega
  clear e14;go_wp2;go_loopw [9,67] (λ_ v67 wr=>∃(i:Nat) (A':dI) (v':Value) (F':List Nat) (a':Pool) (x':bS) (u':Nat),i<=pend.length/\v67=nI i/\Hqq (aD W0 E H {C with A:=A',v:=v'} w0 G0 wr F' {st with a:=a',ids:=iZ Pool.left a4 oO,b:=b4,x:=x'})/\Hqq (kX a' (iZ Pool.left a4 oO) (pend.drop i))/\Hqq (∀c,zn H a' (pend.drop i) c->zn H a4 pend c)/\Hqq (a'.ents.Perm st.a.ents)/\Hqq (dU st.x x' 0 u')/\Hqq (wr.ownsRow bs 3 1 (.slice A9 pend.length c9) pend.length (dK pend))/\Hqq (∀g,(Value.slice A9 pend.length c9).ownBlock=some g->g∉({C with A:=A',v:=v'}:iW).foot F')) (λ_ v67 _=>pend.length-(intOf v67).toNat)
  case atStart=>exact⟨0,A1,v1,F4,a4,x4,_,by omega,rfl,jd,qd (by rw[List.drop_zero,HPe.o];exact nD.o),qd (λ_ h=>h),zo,aez,JN,TD⟩
  case round=>
   clear jd nD zo aez JN TD;obtain⟨i,A',v',F',a',x',u',hi,rfl,HC,nD,HEa,zo,o8,JN,TD⟩:=hrel;by_cases hlt:i<pend.length
   ·have hlt':(i:Int)<(pend.length:Int):=by omega
    have hi0:(0:Int)<=(i:Int):=by omega
    have aen:(i:Int)<=41:=by omega
    obtain⟨j,hj⟩:∃j,pend[i]?=some j:=⟨_,zg hlt⟩;obtain⟨g,hA9,hge,hgl,hce,_⟩:=nS JN.o hj;have Gs:=qd (drop_cons hj);have HU:=qd (Ez HC.o.again 1 (zb _));have HA9:=qd hA9;subst hA9;clear hj;go_wp2_with fail;refine HU.o.mono ?_;rintro y w1 ⟨rfl,h1⟩;have HR1:=qd (kG JN.o h1.mod (λk hk=>TD.o k hk));have abh:=qd (show∀g',(Value.slice (some ⟨g,0,none⟩) pend.length c9).ownBlock=some g'->g'∉({C with A:=A',v:=v'}:iW).foot F' from TD.o);have ug:=qd (HC.o.chain h1);have H8:=qd (o8.o.trans (tZ _ 1))
    have hin:kX a' (iZ Pool.left a4 oO) (j::pend.drop (i+1)):=by rw[<-Gs.o];exact nD.o
    have hbd:=ug.o.bounds;have bI:=qd (abe ug.o.again j (pend.drop (i+1)) hin);have aeA:=qd (λ(b:Pool) (hb:Cw H a' j b)=>abd hin hb hbd.1 hbd.2.1 hbd.2.2.1);clear h1 hin HC JN TD HU nD hce o8 hbd;unfold bg at bI;go_wp2_with fail;refine bI.o.mono ?_;rintro y w2 ⟨rfl,A2,v2,F2,b2',x2',u2',hE,hC2,Ev⟩;obtain⟨k1,k2,k3,k4,k5⟩:=aeA.o b2' hE;have sO:=qd (ug.o.chain hC2);have HR2:=qd (kG HR1.o hC2.mod (λk hk=>abh.o k hk))
    have agy:=qd (show∀g',(Value.slice (some ⟨g,0,none⟩) pend.length c9).ownBlock=some g'->g'∉({C with A:=A2,v:=v2}:iW).foot F2 from λg' hg' hq=>by
     rcases hC2.sub g' hq with h1|h1
     ·exact abh.o g' hg' h1
     ·have:=(HR1.o.lt g' hg').2;omega)
    have HK1:=qd k1;have HK4:=qd (k4.trans zo.o);have agz:=qd (λc (hc:zn H b2' (pend.drop (i+1)) c)=>HEa.o c (by rw[Gs.o];exact .cons hE hc));have Qc:=qd (H8.o.trans Ev);clear hE hC2 Ev k1 k2 k3 k4 k5 ug HR1 abh bI aeA HEa zo H8;go_wp2;go_roundw
    case rel=>exact⟨i+1,A2,v2,F2,b2',x2',_,by omega,by go_num,sO,HK1,agz,HK4,Qc,HR2,agy⟩
    case measure=>simp[intOf];omega
   ·obtain rfl:i=pend.length:=by omega
    have hlt':¬(pend.length:Int)<(pend.length:Int):=by omega
    have hIn:=nD.o;have hEa:=HEa.o;rw[List.drop_length]at hIn hEa;have HEx:=qd (show BH W0 E H C w0 G0 st id wr from⟨A',v',F',a',_,b4,x',u',⟨a1,bZ,a2,aO,a3,e1,oO,a4,oD.o,uT.o,iB.o,Gr.o,by rw[<-HPe.o];exact hEa a' (.nil a'),rfl⟩,hIn,zo.o,HC.o,o8.o⟩);clear hIn hEa;go_wp2;go_end0
    first|exact⟨rfl,HEx.o⟩|exact HEx.o
