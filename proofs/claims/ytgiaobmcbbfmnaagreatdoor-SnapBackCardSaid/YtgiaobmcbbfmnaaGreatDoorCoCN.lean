/- A core's maintain by its contract. -/
import Derived.Test.YtgiaobmcbbfmnaaGreatDoorCoCM
import Derived.Test.YtgiaobmcbbfmnaaGreatDoorSqT
import Derived.Test.YtgiaobmcbbfmnaaGreatDoorSq
namespace Go.Proofs.YtgiaobmcbbfmnaaGreatDoor
set_option maxRecDepth 100000
set_option maxHeartbeats 8000000
open Go.RowKit dw
section
variable {W0 : World} {E : Nat → Addr} {H : Nat → Nat} {C : fA} {w0 : World} {G0 : List Nat} {w w' : World} {F : List Nat} {st : mK}
theorem aC.double (h:aC W0 E H C w0 G0 w F st){cb fb fe:Nat}{w1:World}(hc:st.a.cop=none)(hC:iX w1 cb C.A.db C.A.eb fb fe st.a.d 0 st.a.l (List.replicate (2^(st.a.d+1)) 0))(h1:w.heap.size≤cb)(h2:w.heap.size≤fb)(h3:w.heap.size≤fe)(hb:Below w.heap.size w w1)(zP:32∉st.ids):
  ∃F',aC W0 E H {C with A:={C.A with cb:=cb,fb:=fb,fe:=fe},v:=C.v} w0 G0 (w1.setCell ⟨C.mb,13,none⟩ (.pointer (some ⟨cb,0,none⟩))) F' {st with a:={st.a with cop:=some (0,List.replicate (2^(st.a.d+1)) 0)}}:=by
 obtain⟨Fs,hF,hp⟩:=h.aB.pool;have hml:C.mb<w.heap.size:=h.aB.met.lt;have hm:Mod [C.mb] w (w1.setCell ⟨C.mb,13,none⟩ (.pointer (some ⟨cb,0,none⟩))):=(Mod.of_below hb [C.mb]).ak (.inl (by simp)) _ _;have hmb:∀q∈F,q∉[C.mb]:=fun q hq e=>h.hp.mb h.aB.pool (by show C.mb∈F;rw[←List.mem_singleton.1 e];exact hq);have hlts:=h.gJ;have yH:∀q∈F,q<w.heap.size:=fun q hq=>hlts q (aS.2 (.inr (.inr (.inl hq))));have zx:∀i,i<st.a.Ns.length→∀q∈Fs i,q∈F:=fun i hi q hq=>hF▸aK.2 (.inl ⟨i,hi,hq⟩);have vX:∀q∈C.A.dV st.a.cop,q∈F:=fun q hq=>hF▸aK.2 (.inr hq)
 have hC2:iX (w1.setCell ⟨C.mb,13,none⟩ (.pointer (some ⟨cb,0,none⟩))) cb C.A.db C.A.eb fb fe st.a.d 0 st.a.l (List.replicate (2^(st.a.d+1)) 0):=
  hC.mod (S:=[C.mb]) ((Mod.refl _ w1).ak (.inl (by simp)) _ _) (fun q hq dL=>by
   have:=List.mem_singleton.1 dL;simp at hq;rcases hq with e|e|e|e|e
   ·omega
   ·exact hmb q (vX q (by unfold bY.dV;simp[e])) (by simp[this])
   ·exact hmb q (vX q (by unfold bY.dV;simp[e])) (by simp[this])
   ·omega
   ·omega)
 have hdf:∀q,q∈({C.A with cb:=cb,fb:=fb,fe:=fe}:bY).dV (some (0,List.replicate (2^(st.a.d+1)) 0))↔q∈C.A.dV st.a.cop∨q=cb∨q=fb∨q=fe:=fun q=>by
  unfold bY.dV;rw[hc];simp;omega
 have hin:∀q,q∈gN ({C.A with cb:=cb,fb:=fb,fe:=fe}:bY) Fs {st.a with cop:=some (0,List.replicate (2^(st.a.d+1)) 0)}→q∈F∨w.heap.size≤q:=fun q hq=>by
  rcases aK.1 hq with⟨i,hi,hq2⟩|hq2
  ·exact .inl (zx i hi q hq2)
  ·rcases(hdf q).1 hq2 with e|e|e|e
   ·exact .inl (vX q e)
   ·exact .inr (by omega)
   ·exact .inr (by omega)
   ·exact .inr (by omega)
 have hP:iO W0 C.mb H ({C.A with cb:=cb,fb:=fb,fe:=fe}:bY) (w1.setCell ⟨C.mb,13,none⟩ (.pointer (some ⟨cb,0,none⟩))) Fs {st.a with cop:=some (0,List.replicate (2^(st.a.d+1)) 0)}:=
  ⟨fun i N hN=>⟨(hp.lu i N hN).1.mod hm (fun q hq=>hmb q (zx i (bC hN) q hq)),(hp.lu i N hN).2⟩,hC2.old,fun next lf he=>by
   have:=Option.some.inj he;cases this
   exact hC2,hp.sep,fun i hi q hq hq2=>by
   have hq':=zx i hi q hq;rcases(hdf q).1 hq2 with e|e|e|e
   ·exact hp.wH i hi q hq e
   ·have:=yH q hq';omega
   ·have:=yH q hq';omega
   ·have:=yH q hq';omega,fun q hq=>by
   rcases hin q hq with e|e
   ·exact hp.low q (hF▸e)
   ·have:=h.aB.env.size;omega,fun hq=>by
   rcases hin _ hq with e|e
   ·exact hmb _ e (by simp)
   ·omega,hp.yJ⟩
 refine⟨_,h.upd {C.A with cb:=cb,fb:=fb,fe:=fe} C.v {st with a:={st.a with cop:=some (0,List.replicate (2^(st.a.d+1)) 0)}} hm (fun q hq=>aS.2 (.inl (List.mem_singleton.1 hq))) ((h.aB.aB.mod hm (fun q hq dL=>(h.aB.apart q hq).2.1 (List.mem_singleton.1 dL))).aaG (fun id hid=> ?_)) ⟨Fs,rfl,hP⟩ ⟨rfl, ?_⟩ (lK (st:=st) h hm (fun q hq=> .inl (List.mem_singleton.1 hq))) h.pos hin (fun g hg=>⟨.inl hg,fun hh=>by have:=(h.row.lt g hg).2;omega⟩)⟩
 ·have hne:id≠32:=fun e=>zP (e▸hid);show C.A.val id=({C.A with cb:=cb,fb:=fb,fe:=fe}:bY).val id;unfold bY.val bY.ja;simp only;rw[if_neg hne,if_neg hne];rfl
 ·exact((Met.blk h.aB.met).mod (Mod.of_below hb []) (by simp)).ak 13 _
end
theorem uX {W0:World}{E:Nat→Addr}{P:MP}{α:Type}{jt:Nat→TypeId}{ja:Nat→Addr}{At:World→List Nat→α→Prop}{can:α→Nat→Prop}{left:α→Nat→Nat}{Stp:α→Nat→α→Prop}(HP:iH W0 E P jt ja At can left Stp)(s:SP)(F:List Nat)(K:Nat)(hK:1≤K∧K≤64)(hk:s.k=(K:Int))(b:Int)(ids:List Nat)(a:α)(x:bH)(own:Nat)(jD:own≤1000)(hval:∀id,s.val id= .iface (jt id) (.pointer (some (ja id))))(hcan:∀id∈ids,can a id∧id≤1000)(w:World)(h:aZ W0 E P At s w F w b ids a F x):
  Calls Tryz.prog 107 #[eO s.sb,mg P,.int .i64 (own:Int)] w fun e w'=>∃A cc e1 bF a1 a2 F' x' b',e= .returned (.slice A (e1++eB left a2 bF).length cc)∧w'.ownsRow w.heap.size 3 1 (.slice A (e1++eB left a2 bF).length cc) (e1++eB left a2 bF).length (bP (e1++eB left a2 bF))∧vR left Stp ids own (8*K) a a1∧tu left Stp K ids a1 e1 bF a2∧aZ W0 E P At s w F w' b' (eD left a2 bF) a2 F' x'∧dN x x' 0 (9*K)∧ng P s F' (.slice A (e1++eB left a2 bF).length cc):=by
 by_cases hin:own∈ids
 ·exact J2 HP s F K hK hk b ids a x own jD hin hval hcan w h
 ·exact Je HP s F K hK hk b ids a x own jD hin hval hcan w h
def tH (W0:World)(E:Nat→Addr)(H:Nat→Nat)(C:fA)(w0:World)(G0:List Nat)(st:mK)(id:Nat)(w':World):Prop:=
 ∃(A':bY) (v':Value) (F':List Nat) (a':Pool) (aO:List Nat) (b':Int) (x':bH) (u:Nat),aaI H C.K st.a st.ids id a' aO∧jf a' aO []∧a'.ents.Perm st.a.ents∧aC W0 E H {C with A:=A',v:=v'} w0 G0 w' F' {st with a:=a',ids:=aO,b:=b',x:=x'}∧dN st.x x' 0 u
theorem Xg {l t:Int}{g lo gl:Nat}(h:iZ l t g lo gl=0):eZ l t g lo gl=false:=by
 unfold iZ at h;unfold eZ;split at h
 ·next h1=>rw[h1];rfl
 ·split at h
  ·cases h
  ·split at h
   ·cases h
   ·split at h<;>cases h
theorem acO {l t:Int}{g lo gl:Nat}(h:eZ l t g lo gl=true):gl<5:=by
 unfold eZ at h;simp at h;omega
theorem wJ {W0:World}{E:Nat→Addr}{H:Nat→Nat}{C:fA}{w0:World}{G0:List Nat}{w:World}{F:List Nat}{st:mK}(h:aC W0 E H C w0 G0 w F st)(id:Nat)(N:Nd)(hN:st.a.Ns[id]?=some N)(hcp:Uo st.a st.ids id):Calls Tryz.prog 73 #[bL C.mb,.int .i64 (id:Int),aQ (C.A.nb id)] w fun e w'=>e= .returned undef∧tH W0 E H C w0 G0 st id w':=by
 have HC:=qd h;obtain⟨c0,c1,c11,c12,c13,c14,c15⟩:=HC.out.cells;have hid:=bC hN;have hbd:=h.bounds
 have jD:id≤1000:=by have:=hbd.2.1;omega
 have h32:id≠32:=by have:=hbd.2.1;omega
 have hO:=hbd.2.2.2 id N hN;obtain⟨Fs,hF,hpo⟩:=h.aB.pool;have DK:=qd (Lj C.A.db C.A.eb st.a.d st.a.l w hpo.dir);obtain⟨hnA,_⟩:=hpo.lu id N hN
 obtain⟨k,PY,hW,hcase⟩:∃(k:Nat) (PY:Bool),(Calls Tryz.prog 101 #[aQ (C.A.nb id),.int .i64 (st.a.d:Int)] w fun e w'=>e= .returned (.tuple #[.int .i64 (k:Int),.bool PY])∧Below w.heap.size w w')∧((N.ph.busy=true∧k=0∧PY=false)∨(N.ph= .idle∧iZ N.T.live N.T.bO N.len N.au st.a.d=k∧eZ N.T.live N.T.bO N.len N.au st.a.d=PY)):=by
  cases hb:N.ph.busy with
  |true=>exact⟨0,false,ML st.a.d hnA hb,.inl ⟨rfl,rfl,rfl⟩⟩
  |false=>exact⟨_,_,MN st.a.d hnA hO (R9 hb),.inr ⟨R9 hb,rfl,rfl⟩⟩
 have HW:=qd hW;have Xh:=qd hcase;have HO:=qd hO;have HN:=qd hN;have nJ:=qd hcp;have sP:=qd hbd
 have ags:st.ids.length≤33:=by
  have hh:=J3 st.ids (List.range 33) hcp.nd (fun x hx=>by
   rw[List.mem_range];rcases(hcp.gG x).2 hx with⟨M,h1,_⟩|⟨_,h1,_⟩
   ·have:=bC h1;have h3:=hbd.2.1;omega
   ·omega)
  simpa using hh
 clear h hW hcase hO hN hcp hpo hF hnA hbd hid;unfold iC at DK;unfold aQ at HW;unfold bL aQ;go_in;go_wp2_with fail;refine DK.out.mono ?_;rintro x w1 ⟨rfl,rfl⟩;go_wp2_with fail;refine HW.out.mono ?_;rintro x w1 ⟨rfl,hb⟩;replace HC:=qd (HC.out.below hb);clear c0 c1 c11 c12 c13 c14 c15 DK HW hb;by_cases hk0:k=0
 ·subst hk0
  have hki:¬((0:Nat):Int)≠0:=by omega
  have hdb:PY=false:=by
   rcases Xh.out with⟨_,_,h1⟩|⟨_,h1,h2⟩
   ·exact h1
   ·rw[←h2];exact Xg h1
  subst hdb
  obtain⟨a1,bF,F1,GL,hC1⟩:∃a1 bF F1,zR st.a st.ids id a1 bF∧(bF=st.ids)∧aC W0 E H C w0 G0 w1 F1 {st with a:=a1,ids:=bF}:=by
   rcases Xh.out with⟨h1,_,_⟩|⟨h1,h2,h3⟩
   ·exact⟨st.a,st.ids,F,.busy HN.out h1,rfl,HC.out⟩
   ·obtain⟨Fi,n1,n2,n3,n4,n5,n6⟩:=HC.out.node HN.out;obtain⟨F2,hf2⟩:=n6 w1 Fi [] {N with sl:=0} st.x n1 (abv n2 h1 h2) (fun q hq=> .inl hq) HC.out.aB.met (Mod.refl _ _) (by simp);exact⟨_,st.ids,F2,.none HN.out h1 h2,rfl,hf2⟩
  obtain⟨aaK,hC1⟩:=hC1;obtain⟨hsv,hd1,hl1,hc1,he1⟩:=Sb nJ.out (fun M hM=>by rw[HN.out]at hM;cases hM;exact HO.out) GL;have vP:=qd GL;obtain⟨a2,aG,A1,v1,x2,b2,ha2⟩:∃(a2:Pool) (aG:List Nat) (A1:bY) (v1:Value) (x2:bH) (b2:Int),a2=a1∧aG=bF∧A1=C.A∧v1=C.v∧x2=st.x∧b2=st.b:=⟨_,_,_,_,_,_,rfl,rfl,rfl,rfl,rfl,rfl⟩;obtain⟨g1,g2,g3,g4,g5,g6⟩:=ha2;have oU:=qd (show D8 (PX st.a id) a1 bF a2 aG from by rw[g1,g2];exact .not);have mO:=qd (show D9 a2 aG id from by rw[g1,g2];exact hsv);have kU:=qd (show a2.ents=st.a.ents from by rw[g1];exact he1);have jc:=qd (show dN st.x x2 0 0 from by rw[g5];exact dN.refl _)
  have GN:aG.length≤40:=by rw[g2,aaK];omega
  obtain⟨V,hV⟩:∃V,V=w1:=⟨_,rfl⟩;have mM:=qd (show aC W0 E H {C with A:=A1,v:=v1} w0 G0 V F1 {st with a:=a2,ids:=aG,b:=b2,x:=x2} from by rw[g1,g2,g3,g4,g5,g6,hV];exact hC1);rw[←hV];clear HC hC1 hsv GL hd1 hl1 hc1 he1 g1 g2 g3 g4 g5 g6 aaK hV Xh nJ sP HO;have HC:=mM;clear mM;go_upto_region 7 with fail;have iI:=qd (HC.out.below (Below.refl V.heap.size V).drew);have e14:V.cell? ⟨C.mb,14,none⟩=some (.pointer (some ⟨C.sb,0,none⟩)):=HC.out.cells.2.2.2.2.2.1;have hbd:=iI.out.bounds
  have Ao:=qd (uX iI.out.hp ({C with A:=A1,v:=v1}:fA).s F1 C.K iI.out.kk rfl b2 aG a2 x2 id jD (fun _=>rfl) (fun j hj=>⟨(mO.out.pre.gG j).2 hj,by
   rcases(mO.out.pre.gG j).2 hj with⟨M,h1,_⟩|⟨_,h1,_⟩
   ·have:=bC h1;have h3:=hbd.2.1;simp only at h3;omega
   ·omega⟩) (World.drew V) iI.out.aB)
  have HS2:=qd (show Calls Tryz.prog 107 #[.pointer (some ⟨C.sb,0,none⟩),.pointer (some ⟨C.mb,3,none⟩),.int .i64 (id:Int)] (World.drew V) _ from Ao.out);clear Ao HC hbd;go_upto_region 7 with fail;refine rT (fun(w':World)=>w'.cell? ⟨C.mb,14,none⟩=some (.pointer (some ⟨C.sb,0,none⟩))) [8] ?_;have hHeld:=e14;refine vW 0 rfl ?_;refine vW 1 rfl ?_;refine vW 2 rfl ?_;refine vT 3 rfl ?_;refine vW 4 rfl ?_;refine vW 5 rfl ?_;refine vW 6 rfl ?_;refine vW 7 rfl ?_;refine vW 10 rfl ?_;refine nT 8 rfl fun K hK=> ?_;go_simp;refine(HS2.out).mono ?_;rintro y V2 ⟨A9,c9,e1,d9,a3,a4,F4,x4,b4,rfl,hrow,hown,hoth,hs,hco,hra⟩;obtain⟨yL,ni⟩:=EG iI.out.kk.1 mO.out hown hoth;have gP:=qd (iI.out.served hs ni.len ni.cop);have jE:=qd yL;have fD:=qd hown;have tC:=qd hoth;have j6:=qd (show a4.ents.Perm st.a.ents from by rw[←kU.out];exact ni.ents);have yM:=qd (jc.out.trans hco);obtain⟨pend,nk⟩:∃p,p=e1++eB Pool.left a4 d9:=⟨_,rfl⟩;rw[←nk]at hrow hra⊢;have yN:=qd nk;have jN:=qd hrow
  have mE:=qd (show∀g,(Value.slice A9 pend.length c9).ownBlock=some g→g∉({C with A:=A1,v:=v1}:fA).foot F4 from fun g hg hq=>by
   have hl:=(hrow.lt g hg);rcases aS.1 hq with h1|h1|h1|h1
   ·exact hra g hg (by rw[h1];exact List.mem_cons_self ..)
   ·exact hra g hg (List.mem_cons_of_mem _ (List.mem_append_left _ h1))
   ·exact hra g hg (List.mem_cons_of_mem _ (List.mem_append_right _ h1))
   ·have:=(iI.out.row.lt g h1).2;omega)
  obtain⟨bs,hbs⟩:∃bs,bs=(World.drew V).heap.size:=⟨_,rfl⟩;rw[←hbs]at jN;clear hrow hown hoth hs hco hra yL ni nk HS2 iI mO kU jc hbs;go_wp2_with fail;refine kO hK ?_;clear hK K;refine vL 9 rfl ?_;refine aT (by kernel_rfl) ?_ _
  have hpl:pend.length≤40:=by
   have h1:=mq tC.out;have h2:=congrArg List.length h1;rw[List.length_append]at h2;have h3:(eB Pool.left a4 d9).length≤d9.length:=List.length_filter_le _ _;rw[yN.out,List.length_append];have h4:=GN;omega
  clear e14;go_wp2;go_loopw [9,67] (fun _ v67 wr=>∃(i:Nat) (A':bY) (v':Value) (F':List Nat) (a':Pool) (x':bH) (u':Nat),i≤pend.length∧v67= .int .i64 (i:Int)∧Hid (aC W0 E H {C with A:=A',v:=v'} w0 G0 wr F' {st with a:=a',ids:=eD Pool.left a4 d9,b:=b4,x:=x'})∧Hid (jf a' (eD Pool.left a4 d9) (pend.drop i))∧Hid (∀c,jO H a' (pend.drop i) c→jO H a4 pend c)∧Hid (a'.ents.Perm st.a.ents)∧Hid (dN st.x x' 0 u')∧Hid (wr.ownsRow bs 3 1 (.slice A9 pend.length c9) pend.length (bP pend))∧Hid (∀g,(Value.slice A9 pend.length c9).ownBlock=some g→g∉({C with A:=A',v:=v'}:fA).foot F')) (fun _ v67 _=>pend.length-(intOf v67).toNat)
  case atStart=>exact⟨0,A1,v1,F4,a4,x4,_,by omega,rfl,gP,qd (by rw[List.drop_zero,yN.out];exact jE.out),qd (fun _ h=>h),j6,yM,jN,mE⟩
  case round=>
   clear gP jE j6 yM jN mE;obtain⟨i,A',v',F',a',x',u',hi,rfl,HC,jE,yO,j6,jc,jN,mE⟩:=hrel;by_cases hlt:i<pend.length
   ·have hlt':(i:Int)<(pend.length:Int):=by omega
    have hi0:(0:Int)≤(i:Int):=by omega
    have PE:(i:Int)≤41:=by omega
    obtain⟨j,hj⟩:∃j,pend[i]?=some j:=⟨_,List.getElem?_eq_getElem hlt⟩;obtain⟨g,Ea,hge,hgl,hce,_⟩:=iM jN.out hj;have vS:=qd (drop_cons hj);have HU:=qd (rU HC.out.again 1 (Nat.le_refl _));have HA9:=qd Ea;subst Ea;clear hj;go_wp2_with fail;refine HU.out.mono ?_;rintro y w1 ⟨rfl,h1⟩;have HR1:=qd (fV jN.out h1.mod (fun k hk=>mE.out k hk));have qP:=qd (show∀g',(Value.slice (some ⟨g,0,none⟩) pend.length c9).ownBlock=some g'→g'∉({C with A:=A',v:=v'}:fA).foot F' from mE.out);have jy:=qd (HC.out.chain h1);have qm:=qd (jc.out.trans (nO _ 1))
    have hin:jf a' (eD Pool.left a4 d9) (j::pend.drop (i+1)):=by rw[←vS.out];exact jE.out
    have hbd:=jy.out.bounds;have dF:=qd (BO jy.out.again j (pend.drop (i+1)) hin);have yP:=qd (fun(b:Pool) (hb:wI H a' j b)=>BN hin hb hbd.1 hbd.2.1 hbd.2.2.1);clear h1 hin HC jN mE HU jE hce jc hbd;unfold bL at dF;go_wp2_with fail;refine dF.out.mono ?_;rintro y w2 ⟨rfl,A2,v2,F2,b2',x2',u2',hE,hC2,oW⟩;obtain⟨k1,k2,k3,k4,k5⟩:=yP.out b2' hE;have mM:=qd (jy.out.chain hC2);have HR2:=qd (fV HR1.out hC2.mod (fun k hk=>qP.out k hk))
    have GQ:=qd (show∀g',(Value.slice (some ⟨g,0,none⟩) pend.length c9).ownBlock=some g'→g'∉({C with A:=A2,v:=v2}:fA).foot F2 from fun g' hg' hq=>by
     rcases hC2.sub g' hq with h1|h1
     ·exact qP.out g' hg' h1
     ·have:=(HR1.out.lt g' hg').2;omega)
    have PZ:=qd k1;have P5:=qd (k4.trans j6.out);have GR:=qd (fun c (hc:jO H b2' (pend.drop (i+1)) c)=>yO.out c (by rw[vS.out];exact .cons hE hc));have yI:=qd (qm.out.trans oW);clear hE hC2 oW k1 k2 k3 k4 k5 jy HR1 qP dF yP yO j6 qm;go_wp2;go_roundw
    case rel=>exact⟨i+1,A2,v2,F2,b2',x2',_,by omega,by go_num,mM,PZ,GR,P5,yI,HR2,GQ⟩
    case measure=>simp[intOf];omega
   ·obtain rfl:i=pend.length:=by omega
    have hlt':¬(pend.length:Int)<(pend.length:Int):=by omega
    have hIn:=jE.out;have hEa:=yO.out;rw[List.drop_length]at hIn hEa;have Eb:=qd (show tH W0 E H C w0 G0 st id wr from⟨A',v',F',a',_,b4,x',u',⟨a1,bF,a2,aG,a3,e1,d9,a4,vP.out,oU.out,fD.out,tC.out,by rw[←yN.out];exact hEa a' (.nil a'),rfl⟩,hIn,j6.out,HC.out,jc.out⟩);clear hIn hEa;go_wp2;go_end0
    first|exact⟨rfl,Eb.out⟩|exact Eb.out
 ·have hki:¬(k:Int)=0:=by omega
  have hcs:N.ph= .idle∧iZ N.T.live N.T.bO N.len N.au st.a.d=k∧eZ N.T.live N.T.bO N.len N.au st.a.d=PY:=by
   rcases Xh.out with⟨_,h1,_⟩|h1
   ·exact absurd h1 hk0
   ·exact h1
  have LK:=qd hcs;have GL:=zR.start (ids:=st.ids) HN.out hcs.1 hcs.2.1 hk0;obtain⟨hsv,hd1,hl1,hc1,he1⟩:=Sb nJ.out (fun M hM=>by rw[HN.out]at hM;cases hM;exact HO.out) GL;have vP:=qd GL;have mO:=qd hsv;have J4:=qd he1;obtain⟨Fi,n1,n2,n3,n4,n5,n6⟩:=HC.out.node HN.out;have kC:=qd (ZF st.a.d k sP.out.1 n1 n2 hcs.1 hcs.2.1 hk0);have HX:=qd n6;have HMb:=qd n3;have P6:=qd n1.M4
  have acP:id∉st.ids:=fun hh=>by
   have h1:=(nJ.out.gG id).2 hh;rw[GK HN.out,hcs.1]at h1;cases h1
  have HNi:=qd acP;have HOs:=qd (O4 n2 hcs.1 sP.out.1 hcs.2.1 hk0).1;clear hcs GL hsv hd1 hl1 hc1 he1 n1 n2 n3 n4 n5 n6 acP Xh;unfold aQ at kC;go_wp2_with fail;refine kC.out.mono ?_;rintro x w2 ⟨rfl,F',q1,q2,q3⟩;obtain⟨F2,hf2⟩:=HX.out w2 F' _ _ st.x q1 HOs.out q2 (HC.out.aB.met.mod q3 (fun hq=>HMb.out (by rw[show C.mb=C.A.nb id from List.mem_singleton.1 hq];exact P6.out))) q3 (fun q hq=> .inr (by rw[List.mem_singleton.1 hq];exact P6.out));have mM:=qd hf2;clear hf2 q1 q2 q3 HC kC HX HMb P6 HOs;go_wp2_with fail;refine(ji w2).mono ?_;rintro x w3 ⟨rfl,rfl⟩;have P7:=qd (PO mM.out id 116 ⟨C.A.nb id,0,none⟩ (by unfold bY.val bY.jt bY.ja;rw[if_neg h32,if_neg h32]) HNi.out jD (by show st.ids.length<40;omega));unfold bL at P7;go_wp2_with fail;refine P7.out.mono ?_;rintro x w4 ⟨rfl,h4⟩;have lT:=qd h4;clear h4 mM P7 HNi
  cases hdv:PY with
  |false=>
   subst hdv;obtain⟨c0,c1,c11,c12,c13,c14,c15⟩:=lT.out.cells;go_upto_region 7 with fail;clear c0 c1 c11 c12 c13 c14 c15;obtain⟨a2,aG,A1,v1,x2,b2,F1,V,ha2⟩:∃(a2:Pool) (aG:List Nat) (A1:bY) (v1:Value) (x2:bH) (b2:Int) (F1:List Nat) (V:World),a2={st.a with Ns:=st.a.Ns.set id (N.start k)}∧aG=st.ids++[id]∧A1=C.A∧v1=C.v∧x2=st.x.add (cU 1) 1∧b2=st.b∧F1=F2∧V=w4:=⟨_,_,_,_,_,_,_,_,rfl,rfl,rfl,rfl,rfl,rfl,rfl,rfl⟩;obtain⟨g1,g2,g3,g4,g5,g6,g7,g8⟩:=ha2;obtain⟨a1,bF,hg⟩:∃(a1:Pool) (bF:List Nat),a1=a2∧bF=aG:=⟨_,_,rfl,rfl⟩;obtain⟨g9,g10⟩:=hg;have oU:=qd (show D8 (PX st.a id) a1 bF a2 aG from by rw[g9,g10];exact .not);have Ec:=qd (show zR st.a st.ids id a1 bF from by rw[g9,g10,g1,g2];exact vP.out);have Ed:=qd (show D9 a2 aG id from by rw[g1,g2];exact mO.out);have kU:=qd (show a2.ents=st.a.ents from by rw[g1];exact J4.out);have jc:=qd (show dN st.x x2 0 1 from by rw[g5];exact nO _ 1)
   have GN:aG.length≤40:=by rw[g2,List.length_append,List.length_singleton];omega
   have gP:=qd (show aC W0 E H {C with A:=A1,v:=v1} w0 G0 V F1 {st with a:=a2,ids:=aG,b:=b2,x:=x2} from by rw[g1,g2,g3,g4,g5,g6,g7,g8];exact lT.out);rw[←g8];clear lT vP mO J4 g1 g2 g3 g4 g5 g6 g7 g8 g9 g10 LK nJ sP HO;have HC:=gP;have vP:=Ec;have mO:=Ed;clear gP Ec Ed;have iI:=qd (HC.out.below (Below.refl V.heap.size V).drew);have e14:V.cell? ⟨C.mb,14,none⟩=some (.pointer (some ⟨C.sb,0,none⟩)):=HC.out.cells.2.2.2.2.2.1;have hbd:=iI.out.bounds
   have Ao:=qd (uX iI.out.hp ({C with A:=A1,v:=v1}:fA).s F1 C.K iI.out.kk rfl b2 aG a2 x2 id jD (fun _=>rfl) (fun j hj=>⟨(mO.out.pre.gG j).2 hj,by
    rcases(mO.out.pre.gG j).2 hj with⟨M,h1,_⟩|⟨_,h1,_⟩
    ·have:=bC h1;have h3:=hbd.2.1;simp only at h3;omega
    ·omega⟩) (World.drew V) iI.out.aB)
   have HS2:=qd (show Calls Tryz.prog 107 #[.pointer (some ⟨C.sb,0,none⟩),.pointer (some ⟨C.mb,3,none⟩),.int .i64 (id:Int)] (World.drew V) _ from Ao.out);clear Ao HC hbd;go_upto_region 7 with fail;refine rT (fun(w':World)=>w'.cell? ⟨C.mb,14,none⟩=some (.pointer (some ⟨C.sb,0,none⟩))) [8] ?_;have hHeld:=e14;refine vW 0 rfl ?_;refine vW 1 rfl ?_;refine vW 2 rfl ?_;refine vT 3 rfl ?_;refine vW 4 rfl ?_;refine vW 5 rfl ?_;refine vW 6 rfl ?_;refine vW 7 rfl ?_;refine vW 10 rfl ?_;refine nT 8 rfl fun K hK=> ?_;go_simp;refine(HS2.out).mono ?_;rintro y V2 ⟨A9,c9,e1,d9,a3,a4,F4,x4,b4,rfl,hrow,hown,hoth,hs,hco,hra⟩;obtain⟨yL,ni⟩:=EG iI.out.kk.1 mO.out hown hoth;have gP:=qd (iI.out.served hs ni.len ni.cop);have jE:=qd yL;have fD:=qd hown;have tC:=qd hoth;have j6:=qd (show a4.ents.Perm st.a.ents from by rw[←kU.out];exact ni.ents);have yM:=qd (jc.out.trans hco);obtain⟨pend,nk⟩:∃p,p=e1++eB Pool.left a4 d9:=⟨_,rfl⟩;rw[←nk]at hrow hra⊢;have yN:=qd nk;have jN:=qd hrow
   have mE:=qd (show∀g,(Value.slice A9 pend.length c9).ownBlock=some g→g∉({C with A:=A1,v:=v1}:fA).foot F4 from fun g hg hq=>by
    have hl:=(hrow.lt g hg);rcases aS.1 hq with h1|h1|h1|h1
    ·exact hra g hg (by rw[h1];exact List.mem_cons_self ..)
    ·exact hra g hg (List.mem_cons_of_mem _ (List.mem_append_left _ h1))
    ·exact hra g hg (List.mem_cons_of_mem _ (List.mem_append_right _ h1))
    ·have:=(iI.out.row.lt g h1).2;omega)
   obtain⟨bs,hbs⟩:∃bs,bs=(World.drew V).heap.size:=⟨_,rfl⟩;rw[←hbs]at jN;clear hrow hown hoth hs hco hra yL ni nk HS2 iI mO kU jc hbs;go_wp2_with fail;refine kO hK ?_;clear hK K;refine vL 9 rfl ?_;refine aT (by kernel_rfl) ?_ _
   have hpl:pend.length≤40:=by
    have h1:=mq tC.out;have h2:=congrArg List.length h1;rw[List.length_append]at h2;have h3:(eB Pool.left a4 d9).length≤d9.length:=List.length_filter_le _ _;rw[yN.out,List.length_append];have h4:=GN;omega
   clear e14;go_wp2;go_loopw [9,67] (fun _ v67 wr=>∃(i:Nat) (A':bY) (v':Value) (F':List Nat) (a':Pool) (x':bH) (u':Nat),i≤pend.length∧v67= .int .i64 (i:Int)∧Hid (aC W0 E H {C with A:=A',v:=v'} w0 G0 wr F' {st with a:=a',ids:=eD Pool.left a4 d9,b:=b4,x:=x'})∧Hid (jf a' (eD Pool.left a4 d9) (pend.drop i))∧Hid (∀c,jO H a' (pend.drop i) c→jO H a4 pend c)∧Hid (a'.ents.Perm st.a.ents)∧Hid (dN st.x x' 0 u')∧Hid (wr.ownsRow bs 3 1 (.slice A9 pend.length c9) pend.length (bP pend))∧Hid (∀g,(Value.slice A9 pend.length c9).ownBlock=some g→g∉({C with A:=A',v:=v'}:fA).foot F')) (fun _ v67 _=>pend.length-(intOf v67).toNat)
   case atStart=>exact⟨0,A1,v1,F4,a4,x4,_,by omega,rfl,gP,qd (by rw[List.drop_zero,yN.out];exact jE.out),qd (fun _ h=>h),j6,yM,jN,mE⟩
   case round=>
    clear gP jE j6 yM jN mE;obtain⟨i,A',v',F',a',x',u',hi,rfl,HC,jE,yO,j6,jc,jN,mE⟩:=hrel;by_cases hlt:i<pend.length
    ·have hlt':(i:Int)<(pend.length:Int):=by omega
     have hi0:(0:Int)≤(i:Int):=by omega
     have PE:(i:Int)≤41:=by omega
     obtain⟨j,hj⟩:∃j,pend[i]?=some j:=⟨_,List.getElem?_eq_getElem hlt⟩;obtain⟨g,Ea,hge,hgl,hce,_⟩:=iM jN.out hj;have vS:=qd (drop_cons hj);have HU:=qd (rU HC.out.again 1 (Nat.le_refl _));have HA9:=qd Ea;subst Ea;clear hj;go_wp2_with fail;refine HU.out.mono ?_;rintro y w1 ⟨rfl,h1⟩;have HR1:=qd (fV jN.out h1.mod (fun k hk=>mE.out k hk));have qP:=qd (show∀g',(Value.slice (some ⟨g,0,none⟩) pend.length c9).ownBlock=some g'→g'∉({C with A:=A',v:=v'}:fA).foot F' from mE.out);have jy:=qd (HC.out.chain h1);have qm:=qd (jc.out.trans (nO _ 1))
     have hin:jf a' (eD Pool.left a4 d9) (j::pend.drop (i+1)):=by rw[←vS.out];exact jE.out
     have hbd:=jy.out.bounds;have dF:=qd (BO jy.out.again j (pend.drop (i+1)) hin);have yP:=qd (fun(b:Pool) (hb:wI H a' j b)=>BN hin hb hbd.1 hbd.2.1 hbd.2.2.1);clear h1 hin HC jN mE HU jE hce jc hbd;unfold bL at dF;go_wp2_with fail;refine dF.out.mono ?_;rintro y w2 ⟨rfl,A2,v2,F2,b2',x2',u2',hE,hC2,oW⟩;obtain⟨k1,k2,k3,k4,k5⟩:=yP.out b2' hE;have mM:=qd (jy.out.chain hC2);have HR2:=qd (fV HR1.out hC2.mod (fun k hk=>qP.out k hk))
     have GQ:=qd (show∀g',(Value.slice (some ⟨g,0,none⟩) pend.length c9).ownBlock=some g'→g'∉({C with A:=A2,v:=v2}:fA).foot F2 from fun g' hg' hq=>by
      rcases hC2.sub g' hq with h1|h1
      ·exact qP.out g' hg' h1
      ·have:=(HR1.out.lt g' hg').2;omega)
     have PZ:=qd k1;have P5:=qd (k4.trans j6.out);have GR:=qd (fun c (hc:jO H b2' (pend.drop (i+1)) c)=>yO.out c (by rw[vS.out];exact .cons hE hc));have yI:=qd (qm.out.trans oW);clear hE hC2 oW k1 k2 k3 k4 k5 jy HR1 qP dF yP yO j6 qm;go_wp2;go_roundw
     case rel=>exact⟨i+1,A2,v2,F2,b2',x2',_,by omega,by go_num,mM,PZ,GR,P5,yI,HR2,GQ⟩
     case measure=>simp[intOf];omega
    ·obtain rfl:i=pend.length:=by omega
     have hlt':¬(pend.length:Int)<(pend.length:Int):=by omega
     have hIn:=jE.out;have hEa:=yO.out;rw[List.drop_length]at hIn hEa;have Eb:=qd (show tH W0 E H C w0 G0 st id wr from⟨A',v',F',a',_,b4,x',u',⟨a1,bF,a2,aG,a3,e1,d9,a4,vP.out,oU.out,fD.out,tC.out,by rw[←yN.out];exact hEa a' (.nil a'),rfl⟩,hIn,j6.out,HC.out,jc.out⟩);clear hIn hEa;go_wp2;go_end0
     first|exact⟨rfl,Eb.out⟩|exact Eb.out
  |true=>
   cases GI:st.a.cop with
   |some cc=>
    subst hdv;obtain⟨c0,c1,c11,c12,c13,c14,c15⟩:=lT.out.cells
    have hcv:lC C.A st.a.cop= .pointer (some ⟨C.A.cb,0,none⟩):=by unfold lC;rw[GI];rfl
    have ZW:w4.cell? ⟨C.mb,13,none⟩=some (.pointer (some ⟨C.A.cb,0,none⟩)):=by rw[←hcv];exact c13
    clear c13 hcv;go_upto_region 7 with fail;clear c0 c1 c11 c12 ZW c14 c15;obtain⟨a2,aG,A1,v1,x2,b2,F1,V,ha2⟩:∃(a2:Pool) (aG:List Nat) (A1:bY) (v1:Value) (x2:bH) (b2:Int) (F1:List Nat) (V:World),a2={st.a with Ns:=st.a.Ns.set id (N.start k)}∧aG=st.ids++[id]∧A1=C.A∧v1=C.v∧x2=st.x.add (cU 1) 1∧b2=st.b∧F1=F2∧V=w4:=⟨_,_,_,_,_,_,_,_,rfl,rfl,rfl,rfl,rfl,rfl,rfl,rfl⟩;obtain⟨g1,g2,g3,g4,g5,g6,g7,g8⟩:=ha2;obtain⟨a1,bF,hg⟩:∃(a1:Pool) (bF:List Nat),a1=a2∧bF=aG:=⟨_,_,rfl,rfl⟩;obtain⟨g9,g10⟩:=hg;have oU:=qd (show D8 (PX st.a id) a1 bF a2 aG from by rw[g9,g10];exact .not);have Ec:=qd (show zR st.a st.ids id a1 bF from by rw[g9,g10,g1,g2];exact vP.out);have Ed:=qd (show D9 a2 aG id from by rw[g1,g2];exact mO.out);have kU:=qd (show a2.ents=st.a.ents from by rw[g1];exact J4.out);have jc:=qd (show dN st.x x2 0 1 from by rw[g5];exact nO _ 1)
    have GN:aG.length≤40:=by rw[g2,List.length_append,List.length_singleton];omega
    have gP:=qd (show aC W0 E H {C with A:=A1,v:=v1} w0 G0 V F1 {st with a:=a2,ids:=aG,b:=b2,x:=x2} from by rw[g1,g2,g3,g4,g5,g6,g7,g8];exact lT.out);rw[←g8];clear lT vP mO J4 g1 g2 g3 g4 g5 g6 g7 g8 g9 g10 LK nJ sP HO;have HC:=gP;have vP:=Ec;have mO:=Ed;clear gP Ec Ed;have iI:=qd (HC.out.below (Below.refl V.heap.size V).drew);have e14:V.cell? ⟨C.mb,14,none⟩=some (.pointer (some ⟨C.sb,0,none⟩)):=HC.out.cells.2.2.2.2.2.1;have hbd:=iI.out.bounds
    have Ao:=qd (uX iI.out.hp ({C with A:=A1,v:=v1}:fA).s F1 C.K iI.out.kk rfl b2 aG a2 x2 id jD (fun _=>rfl) (fun j hj=>⟨(mO.out.pre.gG j).2 hj,by
     rcases(mO.out.pre.gG j).2 hj with⟨M,h1,_⟩|⟨_,h1,_⟩
     ·have:=bC h1;have h3:=hbd.2.1;simp only at h3;omega
     ·omega⟩) (World.drew V) iI.out.aB)
    have HS2:=qd (show Calls Tryz.prog 107 #[.pointer (some ⟨C.sb,0,none⟩),.pointer (some ⟨C.mb,3,none⟩),.int .i64 (id:Int)] (World.drew V) _ from Ao.out);clear Ao HC hbd;go_upto_region 7 with fail;refine rT (fun(w':World)=>w'.cell? ⟨C.mb,14,none⟩=some (.pointer (some ⟨C.sb,0,none⟩))) [8] ?_;have hHeld:=e14;refine vW 0 rfl ?_;refine vW 1 rfl ?_;refine vW 2 rfl ?_;refine vT 3 rfl ?_;refine vW 4 rfl ?_;refine vW 5 rfl ?_;refine vW 6 rfl ?_;refine vW 7 rfl ?_;refine vW 10 rfl ?_;refine nT 8 rfl fun K hK=> ?_;go_simp;refine(HS2.out).mono ?_;rintro y V2 ⟨A9,c9,e1,d9,a3,a4,F4,x4,b4,rfl,hrow,hown,hoth,hs,hco,hra⟩;obtain⟨yL,ni⟩:=EG iI.out.kk.1 mO.out hown hoth;have gP:=qd (iI.out.served hs ni.len ni.cop);have jE:=qd yL;have fD:=qd hown;have tC:=qd hoth;have j6:=qd (show a4.ents.Perm st.a.ents from by rw[←kU.out];exact ni.ents);have yM:=qd (jc.out.trans hco);obtain⟨pend,nk⟩:∃p,p=e1++eB Pool.left a4 d9:=⟨_,rfl⟩;rw[←nk]at hrow hra⊢;have yN:=qd nk;have jN:=qd hrow
    have mE:=qd (show∀g,(Value.slice A9 pend.length c9).ownBlock=some g→g∉({C with A:=A1,v:=v1}:fA).foot F4 from fun g hg hq=>by
     have hl:=(hrow.lt g hg);rcases aS.1 hq with h1|h1|h1|h1
     ·exact hra g hg (by rw[h1];exact List.mem_cons_self ..)
     ·exact hra g hg (List.mem_cons_of_mem _ (List.mem_append_left _ h1))
     ·exact hra g hg (List.mem_cons_of_mem _ (List.mem_append_right _ h1))
     ·have:=(iI.out.row.lt g h1).2;omega)
    obtain⟨bs,hbs⟩:∃bs,bs=(World.drew V).heap.size:=⟨_,rfl⟩;rw[←hbs]at jN;clear hrow hown hoth hs hco hra yL ni nk HS2 iI mO kU jc hbs;go_wp2_with fail;refine kO hK ?_;clear hK K;refine vL 9 rfl ?_;refine aT (by kernel_rfl) ?_ _
    have hpl:pend.length≤40:=by
     have h1:=mq tC.out;have h2:=congrArg List.length h1;rw[List.length_append]at h2;have h3:(eB Pool.left a4 d9).length≤d9.length:=List.length_filter_le _ _;rw[yN.out,List.length_append];have h4:=GN;omega
    clear e14;go_wp2;go_loopw [9,67] (fun _ v67 wr=>∃(i:Nat) (A':bY) (v':Value) (F':List Nat) (a':Pool) (x':bH) (u':Nat),i≤pend.length∧v67= .int .i64 (i:Int)∧Hid (aC W0 E H {C with A:=A',v:=v'} w0 G0 wr F' {st with a:=a',ids:=eD Pool.left a4 d9,b:=b4,x:=x'})∧Hid (jf a' (eD Pool.left a4 d9) (pend.drop i))∧Hid (∀c,jO H a' (pend.drop i) c→jO H a4 pend c)∧Hid (a'.ents.Perm st.a.ents)∧Hid (dN st.x x' 0 u')∧Hid (wr.ownsRow bs 3 1 (.slice A9 pend.length c9) pend.length (bP pend))∧Hid (∀g,(Value.slice A9 pend.length c9).ownBlock=some g→g∉({C with A:=A',v:=v'}:fA).foot F')) (fun _ v67 _=>pend.length-(intOf v67).toNat)
    case atStart=>exact⟨0,A1,v1,F4,a4,x4,_,by omega,rfl,gP,qd (by rw[List.drop_zero,yN.out];exact jE.out),qd (fun _ h=>h),j6,yM,jN,mE⟩
    case round=>
     clear gP jE j6 yM jN mE;obtain⟨i,A',v',F',a',x',u',hi,rfl,HC,jE,yO,j6,jc,jN,mE⟩:=hrel;by_cases hlt:i<pend.length
     ·have hlt':(i:Int)<(pend.length:Int):=by omega
      have hi0:(0:Int)≤(i:Int):=by omega
      have PE:(i:Int)≤41:=by omega
      obtain⟨j,hj⟩:∃j,pend[i]?=some j:=⟨_,List.getElem?_eq_getElem hlt⟩;obtain⟨g,Ea,hge,hgl,hce,_⟩:=iM jN.out hj;have vS:=qd (drop_cons hj);have HU:=qd (rU HC.out.again 1 (Nat.le_refl _));have HA9:=qd Ea;subst Ea;clear hj;go_wp2_with fail;refine HU.out.mono ?_;rintro y w1 ⟨rfl,h1⟩;have HR1:=qd (fV jN.out h1.mod (fun k hk=>mE.out k hk));have qP:=qd (show∀g',(Value.slice (some ⟨g,0,none⟩) pend.length c9).ownBlock=some g'→g'∉({C with A:=A',v:=v'}:fA).foot F' from mE.out);have jy:=qd (HC.out.chain h1);have qm:=qd (jc.out.trans (nO _ 1))
      have hin:jf a' (eD Pool.left a4 d9) (j::pend.drop (i+1)):=by rw[←vS.out];exact jE.out
      have hbd:=jy.out.bounds;have dF:=qd (BO jy.out.again j (pend.drop (i+1)) hin);have yP:=qd (fun(b:Pool) (hb:wI H a' j b)=>BN hin hb hbd.1 hbd.2.1 hbd.2.2.1);clear h1 hin HC jN mE HU jE hce jc hbd;unfold bL at dF;go_wp2_with fail;refine dF.out.mono ?_;rintro y w2 ⟨rfl,A2,v2,F2,b2',x2',u2',hE,hC2,oW⟩;obtain⟨k1,k2,k3,k4,k5⟩:=yP.out b2' hE;have mM:=qd (jy.out.chain hC2);have HR2:=qd (fV HR1.out hC2.mod (fun k hk=>qP.out k hk))
      have GQ:=qd (show∀g',(Value.slice (some ⟨g,0,none⟩) pend.length c9).ownBlock=some g'→g'∉({C with A:=A2,v:=v2}:fA).foot F2 from fun g' hg' hq=>by
       rcases hC2.sub g' hq with h1|h1
       ·exact qP.out g' hg' h1
       ·have:=(HR1.out.lt g' hg').2;omega)
      have PZ:=qd k1;have P5:=qd (k4.trans j6.out);have GR:=qd (fun c (hc:jO H b2' (pend.drop (i+1)) c)=>yO.out c (by rw[vS.out];exact .cons hE hc));have yI:=qd (qm.out.trans oW);clear hE hC2 oW k1 k2 k3 k4 k5 jy HR1 qP dF yP yO j6 qm;go_wp2;go_roundw
      case rel=>exact⟨i+1,A2,v2,F2,b2',x2',_,by omega,by go_num,mM,PZ,GR,P5,yI,HR2,GQ⟩
      case measure=>simp[intOf];omega
     ·obtain rfl:i=pend.length:=by omega
      have hlt':¬(pend.length:Int)<(pend.length:Int):=by omega
      have hIn:=jE.out;have hEa:=yO.out;rw[List.drop_length]at hIn hEa;have Eb:=qd (show tH W0 E H C w0 G0 st id wr from⟨A',v',F',a',_,b4,x',u',⟨a1,bF,a2,aG,a3,e1,d9,a4,vP.out,oU.out,fD.out,tC.out,by rw[←yN.out];exact hEa a' (.nil a'),rfl⟩,hIn,j6.out,HC.out,jc.out⟩);clear hIn hEa;go_wp2;go_end0
      first|exact⟨rfl,Eb.out⟩|exact Eb.out
   |none=>
    subst hdv;obtain⟨c0,c1,c11,c12,c13,c14,c15⟩:=lT.out.cells
    have hcv:lC C.A st.a.cop= .pointer none:=by unfold lC;rw[GI];rfl
    have ZW:w4.cell? ⟨C.mb,13,none⟩=some (.pointer none):=by rw[←hcv];exact c13
    have hd5:st.a.d<5:=acO LK.out.2.2;have AV:=qd GI;obtain⟨Fs4,hF4,hp4⟩:=lT.out.aB.pool;have lq:=qd (QY C.A.db C.A.eb st.a.d st.a.l hd5 w4 hp4.dir)
    have hn32:32∉st.ids++[id]:=fun hh=>by
     rcases List.mem_append.1 hh with h1|h1
     ·rcases(nJ.out.gG 32).2 h1 with⟨M,h2,_⟩|⟨_,_,c,h2⟩
      ·have:=bC h2;have h3:=sP.out.2.1;omega
      ·rw[GI]at h2;cases h2
     ·exact h32 (List.mem_singleton.1 h1).symm
    have ZX:=qd hn32;have HD5:=qd hd5;clear c13 hcv hF4 hp4 hn32 GI;unfold iC ql at lq;go_wp2_with fail;refine lq.out.mono ?_;rintro x w5 ⟨cb,fb,fe,rfl,Xc,⟨z1,z2,z3⟩,hb5⟩;have Xe:=qd Xc;have Cy:=qd hb5;have hB:=(Met.blk lT.out.aB.met).mod (Mod.of_below hb5 []) (by simp);have e13:w5.cell? ⟨C.mb,13,none⟩=some (lC C.A st.a.cop):=hB.cell 13;have g13:w5.frozen? ⟨C.mb,13,none⟩=false:=hB.frozen 13;clear c0 c1 c11 c12 ZW c14 c15 hB Xc hb5 lq;go_wp2_with fail;refine(Y5 (some ⟨cb,0,none⟩) w5).mono ?_;rintro x w6 ⟨rfl,rfl⟩;obtain⟨F6,Ee⟩:=lT.out.double AV.out Xe.out z1 z2 z3 Cy.out ZX.out;go_upto_region 6 with fail;refine dI (F:=fun v=>aC W0 E H {C with A:={C.A with cb:=cb,fb:=fb,fe:=fe},v:=C.v} w0 G0 v F6 {st with a:={st.a with Ns:=st.a.Ns.set id (N.start k),cop:=some (0,List.replicate (2^(st.a.d+1)) 0)},ids:=st.ids++[id],x:=st.x.add (cU 1) 1}) Ee ?_;rintro w7 hC7;have Jj:=qd hC7;have k13:w7.cell? ⟨C.mb,13,none⟩=some (.pointer (some ⟨cb,0,none⟩)):=Jj.out.cells.2.2.2.2.1;have P7:=qd (PO Jj.out 32 126 ⟨cb,0,none⟩ (by unfold bY.val bY.jt bY.ja;rw[if_pos rfl,if_pos rfl]) ZX.out (by omega) (by show(st.ids++[id]).length<40;rw[List.length_append,List.length_singleton];omega));unfold bL at P7;clear Ee hC7 e13 g13 lT Xe Cy z1 z2 z3;go_wp2_with fail;refine P7.out.mono ?_;rintro x w8 ⟨rfl,h8⟩;have Cx:=qd h8;clear h8 P7 Jj k13
    obtain⟨a2,aG,A1,v1,x2,b2,F1,V,ha2⟩:∃(a2:Pool) (aG:List Nat) (A1:bY) (v1:Value) (x2:bH) (b2:Int) (F1:List Nat) (V:World),a2={st.a with Ns:=st.a.Ns.set id (N.start k),cop:=some (0,List.replicate (2^(st.a.d+1)) 0)}∧aG=st.ids++[id]++[32]∧A1={C.A with cb:=cb,fb:=fb,fe:=fe}∧v1=C.v∧x2=(st.x.add (cU 1) 1).add (cU 1) 1∧b2=st.b∧F1=F6∧V=w8:=⟨_,_,_,_,_,_,_,_,rfl,rfl,rfl,rfl,rfl,rfl,rfl,rfl⟩;obtain⟨g1,g2,g3,g4,g5,g6,g7,g8⟩:=ha2;obtain⟨a1,bF,hg⟩:∃(a1:Pool) (bF:List Nat),a1={st.a with Ns:=st.a.Ns.set id (N.start k)}∧bF=st.ids++[id]:=⟨_,_,rfl,rfl⟩;obtain⟨g9,g10⟩:=hg
    have hdb:D8 (PX st.a id) a1 bF a2 aG:=by rw[g9,g10,g1,g2];exact .yes ⟨N,HN.out,LK.out.2.2⟩ AV.out HD5.out
    have oU:=qd hdb;have Ec:=qd (show zR st.a st.ids id a1 bF from by rw[g9,g10];exact vP.out);have Ed:=qd (abI (show D9 a1 bF id from by rw[g9,g10];exact mO.out) (by rw[g9];simpa using sP.out.2.1) hdb).1;have kU:=qd (show a2.ents=st.a.ents from by rw[g1];exact J4.out);have jc:=qd (show dN st.x x2 (0+0) (1+1)from by rw[g5];exact(nO _ 1).trans (nO _ 1))
    have GN:aG.length≤40:=by rw[g2,List.length_append,List.length_append,List.length_singleton,List.length_singleton];omega
    have gP:=qd (show aC W0 E H {C with A:=A1,v:=v1} w0 G0 V F1 {st with a:=a2,ids:=aG,b:=b2,x:=x2} from by rw[g1,g2,g3,g4,g5,g6,g7,g8];exact Cx.out);rw[←g8];clear Cx vP mO J4 g1 g2 g3 g4 g5 g6 g7 g8 g9 g10 hdb LK nJ sP HO AV HD5 ZX;have HC:=gP;have vP:=Ec;have mO:=Ed;clear gP Ec Ed;go_upto_region 7 with fail;have iI:=qd (HC.out.below (Below.refl V.heap.size V).drew);have e14:V.cell? ⟨C.mb,14,none⟩=some (.pointer (some ⟨C.sb,0,none⟩)):=HC.out.cells.2.2.2.2.2.1;have hbd:=iI.out.bounds
    have Ao:=qd (uX iI.out.hp ({C with A:=A1,v:=v1}:fA).s F1 C.K iI.out.kk rfl b2 aG a2 x2 id jD (fun _=>rfl) (fun j hj=>⟨(mO.out.pre.gG j).2 hj,by
     rcases(mO.out.pre.gG j).2 hj with⟨M,h1,_⟩|⟨_,h1,_⟩
     ·have:=bC h1;have h3:=hbd.2.1;simp only at h3;omega
     ·omega⟩) (World.drew V) iI.out.aB)
    have HS2:=qd (show Calls Tryz.prog 107 #[.pointer (some ⟨C.sb,0,none⟩),.pointer (some ⟨C.mb,3,none⟩),.int .i64 (id:Int)] (World.drew V) _ from Ao.out);clear Ao HC hbd;go_upto_region 7 with fail;refine rT (fun(w':World)=>w'.cell? ⟨C.mb,14,none⟩=some (.pointer (some ⟨C.sb,0,none⟩))) [8] ?_;have hHeld:=e14;refine vW 0 rfl ?_;refine vW 1 rfl ?_;refine vW 2 rfl ?_;refine vT 3 rfl ?_;refine vW 4 rfl ?_;refine vW 5 rfl ?_;refine vW 6 rfl ?_;refine vW 7 rfl ?_;refine vW 10 rfl ?_;refine nT 8 rfl fun K hK=> ?_;go_simp;refine(HS2.out).mono ?_;rintro y V2 ⟨A9,c9,e1,d9,a3,a4,F4,x4,b4,rfl,hrow,hown,hoth,hs,hco,hra⟩;obtain⟨yL,ni⟩:=EG iI.out.kk.1 mO.out hown hoth;have gP:=qd (iI.out.served hs ni.len ni.cop);have jE:=qd yL;have fD:=qd hown;have tC:=qd hoth;have j6:=qd (show a4.ents.Perm st.a.ents from by rw[←kU.out];exact ni.ents);have yM:=qd (jc.out.trans hco);obtain⟨pend,nk⟩:∃p,p=e1++eB Pool.left a4 d9:=⟨_,rfl⟩;rw[←nk]at hrow hra⊢;have yN:=qd nk;have jN:=qd hrow
    have mE:=qd (show∀g,(Value.slice A9 pend.length c9).ownBlock=some g→g∉({C with A:=A1,v:=v1}:fA).foot F4 from fun g hg hq=>by
     have hl:=(hrow.lt g hg);rcases aS.1 hq with h1|h1|h1|h1
     ·exact hra g hg (by rw[h1];exact List.mem_cons_self ..)
     ·exact hra g hg (List.mem_cons_of_mem _ (List.mem_append_left _ h1))
     ·exact hra g hg (List.mem_cons_of_mem _ (List.mem_append_right _ h1))
     ·have:=(iI.out.row.lt g h1).2;omega)
    obtain⟨bs,hbs⟩:∃bs,bs=(World.drew V).heap.size:=⟨_,rfl⟩;rw[←hbs]at jN;clear hrow hown hoth hs hco hra yL ni nk HS2 iI mO kU jc hbs;go_wp2_with fail;refine kO hK ?_;clear hK K;refine vL 9 rfl ?_;refine aT (by kernel_rfl) ?_ _
    have hpl:pend.length≤40:=by
     have h1:=mq tC.out;have h2:=congrArg List.length h1;rw[List.length_append]at h2;have h3:(eB Pool.left a4 d9).length≤d9.length:=List.length_filter_le _ _;rw[yN.out,List.length_append];have h4:=GN;omega
    clear e14;go_wp2;go_loopw [9,67] (fun _ v67 wr=>∃(i:Nat) (A':bY) (v':Value) (F':List Nat) (a':Pool) (x':bH) (u':Nat),i≤pend.length∧v67= .int .i64 (i:Int)∧Hid (aC W0 E H {C with A:=A',v:=v'} w0 G0 wr F' {st with a:=a',ids:=eD Pool.left a4 d9,b:=b4,x:=x'})∧Hid (jf a' (eD Pool.left a4 d9) (pend.drop i))∧Hid (∀c,jO H a' (pend.drop i) c→jO H a4 pend c)∧Hid (a'.ents.Perm st.a.ents)∧Hid (dN st.x x' 0 u')∧Hid (wr.ownsRow bs 3 1 (.slice A9 pend.length c9) pend.length (bP pend))∧Hid (∀g,(Value.slice A9 pend.length c9).ownBlock=some g→g∉({C with A:=A',v:=v'}:fA).foot F')) (fun _ v67 _=>pend.length-(intOf v67).toNat)
    case atStart=>exact⟨0,A1,v1,F4,a4,x4,_,by omega,rfl,gP,qd (by rw[List.drop_zero,yN.out];exact jE.out),qd (fun _ h=>h),j6,yM,jN,mE⟩
    case round=>
     clear gP jE j6 yM jN mE;obtain⟨i,A',v',F',a',x',u',hi,rfl,HC,jE,yO,j6,jc,jN,mE⟩:=hrel;by_cases hlt:i<pend.length
     ·have hlt':(i:Int)<(pend.length:Int):=by omega
      have hi0:(0:Int)≤(i:Int):=by omega
      have PE:(i:Int)≤41:=by omega
      obtain⟨j,hj⟩:∃j,pend[i]?=some j:=⟨_,List.getElem?_eq_getElem hlt⟩;obtain⟨g,Ea,hge,hgl,hce,_⟩:=iM jN.out hj;have vS:=qd (drop_cons hj);have HU:=qd (rU HC.out.again 1 (Nat.le_refl _));have HA9:=qd Ea;subst Ea;clear hj;go_wp2_with fail;refine HU.out.mono ?_;rintro y w1 ⟨rfl,h1⟩;have HR1:=qd (fV jN.out h1.mod (fun k hk=>mE.out k hk));have qP:=qd (show∀g',(Value.slice (some ⟨g,0,none⟩) pend.length c9).ownBlock=some g'→g'∉({C with A:=A',v:=v'}:fA).foot F' from mE.out);have jy:=qd (HC.out.chain h1);have qm:=qd (jc.out.trans (nO _ 1))
      have hin:jf a' (eD Pool.left a4 d9) (j::pend.drop (i+1)):=by rw[←vS.out];exact jE.out
      have hbd:=jy.out.bounds;have dF:=qd (BO jy.out.again j (pend.drop (i+1)) hin);have yP:=qd (fun(b:Pool) (hb:wI H a' j b)=>BN hin hb hbd.1 hbd.2.1 hbd.2.2.1);clear h1 hin HC jN mE HU jE hce jc hbd;unfold bL at dF;go_wp2_with fail;refine dF.out.mono ?_;rintro y w2 ⟨rfl,A2,v2,F2,b2',x2',u2',hE,hC2,oW⟩;obtain⟨k1,k2,k3,k4,k5⟩:=yP.out b2' hE;have mM:=qd (jy.out.chain hC2);have HR2:=qd (fV HR1.out hC2.mod (fun k hk=>qP.out k hk))
      have GQ:=qd (show∀g',(Value.slice (some ⟨g,0,none⟩) pend.length c9).ownBlock=some g'→g'∉({C with A:=A2,v:=v2}:fA).foot F2 from fun g' hg' hq=>by
       rcases hC2.sub g' hq with h1|h1
       ·exact qP.out g' hg' h1
       ·have:=(HR1.out.lt g' hg').2;omega)
      have PZ:=qd k1;have P5:=qd (k4.trans j6.out);have GR:=qd (fun c (hc:jO H b2' (pend.drop (i+1)) c)=>yO.out c (by rw[vS.out];exact .cons hE hc));have yI:=qd (qm.out.trans oW);clear hE hC2 oW k1 k2 k3 k4 k5 jy HR1 qP dF yP yO j6 qm;go_wp2;go_roundw
      case rel=>exact⟨i+1,A2,v2,F2,b2',x2',_,by omega,by go_num,mM,PZ,GR,P5,yI,HR2,GQ⟩
      case measure=>simp[intOf];omega
     ·obtain rfl:i=pend.length:=by omega
      have hlt':¬(pend.length:Int)<(pend.length:Int):=by omega
      have hIn:=jE.out;have hEa:=yO.out;rw[List.drop_length]at hIn hEa;have Eb:=qd (show tH W0 E H C w0 G0 st id wr from⟨A',v',F',a',_,b4,x',u',⟨a1,bF,a2,aG,a3,e1,d9,a4,vP.out,oU.out,fD.out,tC.out,by rw[←yN.out];exact hEa a' (.nil a'),rfl⟩,hIn,j6.out,HC.out,jc.out⟩);clear hIn hEa;go_wp2;go_end0
      first|exact⟨rfl,Eb.out⟩|exact Eb.out
end Go.Proofs.YtgiaobmcbbfmnaaGreatDoor
