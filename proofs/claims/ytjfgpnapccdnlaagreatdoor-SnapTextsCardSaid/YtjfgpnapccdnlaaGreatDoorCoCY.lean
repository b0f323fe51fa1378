/- A core's maintain by its contract. -/
import Derived.Test.YtjfgpnapccdnlaaGreatDoorCoCM
import Derived.Test.YtjfgpnapccdnlaaGreatDoorSqT
import Derived.Test.YtjfgpnapccdnlaaGreatDoorBuilder
import Derived.Test.YtjfgpnapccdnlaaGreatDoorKit2
namespace Go.Proofs.YtjfgpnapccdnlaaGreatDoor
set_option maxRecDepth 100000
set_option maxHeartbeats 8000000
open Go.RowKit dF
section
section
variable {W0 : World} {E : Nat → Addr} {H : Nat → Nat} {C : iO} {w0 : World} {G0 : List Nat} {w w' : World} {F : List Nat} {st : mW}
theorem aF.double (h:aF W0 E H C w0 G0 w F st){cb fb fe:Nat}{w1:World}(hc:st.a.cop=none)(hC:jf w1 cb C.A.db C.A.eb fb fe st.a.d 0 st.a.l (List.replicate (2^(st.a.d+1)) 0))(h1:w.heap.size≤cb)(h2:w.heap.size≤fb)(h3:w.heap.size≤fe)(hb:Below w.heap.size w w1)(zT:32∉st.ids):
  ∃F',aF W0 E H {C with A:={C.A with cb:=cb,fb:=fb,fe:=fe},v:=C.v} w0 G0 (w1.setCell ⟨C.mb,13,none⟩ (.pointer (some ⟨cb,0,none⟩))) F' {st with a:={st.a with cop:=some (0,List.replicate (2^(st.a.d+1)) 0)}}:=by
 obtain⟨Fs,hF,hp⟩:=h.aC.pool;have hml:C.mb<w.heap.size:=h.aC.met.lt;have hm:Mod [C.mb] w (w1.setCell ⟨C.mb,13,none⟩ (.pointer (some ⟨cb,0,none⟩))):=(Mod.of_below hb [C.mb]).ak (.inl (by simp)) _ _;have hmb:∀q∈F,q∉[C.mb]:=fun q hq e=>h.hp.mb h.aC.pool (by show C.mb∈F;rw[←List.mem_singleton.1 e];exact hq);have hlts:=h.iE;have yF:∀q∈F,q<w.heap.size:=fun q hq=>hlts q (aY.2 (.inr (.inr (.inl hq))));have zq:∀i,i<st.a.Ns.length→∀q∈Fs i,q∈F:=fun i hi q hq=>hF▸aM.2 (.inl ⟨i,hi,hq⟩);have vN:∀q∈C.A.dW st.a.cop,q∈F:=fun q hq=>hF▸aM.2 (.inr hq)
 have hC2:jf (w1.setCell ⟨C.mb,13,none⟩ (.pointer (some ⟨cb,0,none⟩))) cb C.A.db C.A.eb fb fe st.a.d 0 st.a.l (List.replicate (2^(st.a.d+1)) 0):=
  hC.mod (S:=[C.mb]) ((Mod.refl _ w1).ak (.inl (by simp)) _ _) (fun q hq dK=>by
   have:=List.mem_singleton.1 dK;simp at hq;rcases hq with e|e|e|e|e
   ·omega
   ·exact hmb q (vN q (by unfold cB.dW;simp[e])) (by simp[this])
   ·exact hmb q (vN q (by unfold cB.dW;simp[e])) (by simp[this])
   ·omega
   ·omega)
 have hdf:∀q,q∈({C.A with cb:=cb,fb:=fb,fe:=fe}:cB).dW (some (0,List.replicate (2^(st.a.d+1)) 0))↔q∈C.A.dW st.a.cop∨q=cb∨q=fb∨q=fe:=fun q=>by
  unfold cB.dW;rw[hc];simp;omega
 have hin:∀q,q∈gK ({C.A with cb:=cb,fb:=fb,fe:=fe}:cB) Fs {st.a with cop:=some (0,List.replicate (2^(st.a.d+1)) 0)}→q∈F∨w.heap.size≤q:=fun q hq=>by
  rcases aM.1 hq with⟨i,hi,hq2⟩|hq2
  ·exact .inl (zq i hi q hq2)
  ·rcases(hdf q).1 hq2 with e|e|e|e
   ·exact .inl (vN q e)
   ·exact .inr (by omega)
   ·exact .inr (by omega)
   ·exact .inr (by omega)
 have hP:iN W0 C.mb H ({C.A with cb:=cb,fb:=fb,fe:=fe}:cB) (w1.setCell ⟨C.mb,13,none⟩ (.pointer (some ⟨cb,0,none⟩))) Fs {st.a with cop:=some (0,List.replicate (2^(st.a.d+1)) 0)}:=
  ⟨fun i N hN=>⟨(hp.lK i N hN).1.mod hm (fun q hq=>hmb q (zq i (bG hN) q hq)),(hp.lK i N hN).2⟩,hC2.old,fun next lf he=>by
   have:=Option.some.inj he;cases this
   exact hC2,hp.sep,fun i hi q hq hq2=>by
   have hq':=zq i hi q hq;rcases(hdf q).1 hq2 with e|e|e|e
   ·exact hp.wu i hi q hq e
   ·have:=yF q hq';omega
   ·have:=yF q hq';omega
   ·have:=yF q hq';omega,fun q hq=>by
   rcases hin q hq with e|e
   ·exact hp.low q (hF▸e)
   ·have:=h.aC.env.size;omega,fun hq=>by
   rcases hin _ hq with e|e
   ·exact hmb _ e (by simp)
   ·omega,hp.yG⟩
 refine⟨_,h.upd {C.A with cb:=cb,fb:=fb,fe:=fe} C.v {st with a:={st.a with cop:=some (0,List.replicate (2^(st.a.d+1)) 0)}} hm (fun q hq=>aY.2 (.inl (List.mem_singleton.1 hq))) ((h.aC.aC.mod hm (fun q hq dK=>(h.aC.apart q hq).2.1 (List.mem_singleton.1 dK))).abt (fun id hid=> ?_)) ⟨Fs,rfl,hP⟩ ⟨rfl, ?_⟩ (lV (st:=st) h hm (fun q hq=> .inl (List.mem_singleton.1 hq))) h.pos hin (fun g hg=>⟨.inl hg,fun hh=>by have:=(h.row.lt g hg).2;omega⟩)⟩
 ·have hne:id≠32:=fun e=>zT (e▸hid);show C.A.val id=({C.A with cb:=cb,fb:=fb,fe:=fe}:cB).val id;unfold cB.val cB.ja;simp only;rw[if_neg hne,if_neg hne];rfl
 ·exact((Met.blk h.aC.met).mod (Mod.of_below hb []) (by simp)).ak 13 _
end
theorem Rp {W0:World}{E:Nat→Addr}{P:MP}{α:Type}{jt:Nat→TypeId}{ja:Nat→Addr}{At:World→List Nat→α→Prop}{can:α→Nat→Prop}{left:α→Nat→Nat}{Stp:α→Nat→α→Prop}(HP:iI W0 E P jt ja At can left Stp)(s:SP)(F:List Nat)(K:Nat)(hK:1≤K∧K≤64)(hk:s.k=(K:Int))(b:Int)(ids:List Nat)(a:α)(x:bJ)(own:Nat)(lJ:own≤1000)(hval:∀id,s.val id= .iface (jt id) (.pointer (some (ja id))))(hcan:∀id∈ids,can a id∧id≤1000)(w:World)(h:bq W0 E P At s w F w b ids a F x):
  Calls Tryz.prog 101 #[eG s.sb,mH P,.int .i64 (own:Int)] w fun e w'=>∃A cc e1 bK a1 a2 F' x' b',e= .returned (.slice A (e1++fT left a2 bK).length cc)∧w'.ownsRow w.heap.size 3 1 (.slice A (e1++fT left a2 bK).length cc) (e1++fT left a2 bK).length (cZ (e1++fT left a2 bK))∧vK left Stp ids own (8*K) a a1∧sS left Stp K ids a1 e1 bK a2∧bq W0 E P At s w F w' b' (gY left a2 bK) a2 F' x'∧dV x x' 0 (9*K)∧ny P s F' (.slice A (e1++fT left a2 bK).length cc):=by
 by_cases hin:own∈ids
 ·exact Ki HP s F K hK hk b ids a x own lJ hin hval hcan w h
 ·exact Jq HP s F K hK hk b ids a x own lJ hin hval hcan w h
def AV (W0:World)(E:Nat→Addr)(H:Nat→Nat)(C:iO)(w0:World)(G0:List Nat)(st:mW)(id:Nat)(w':World):Prop:=
 ∃(A':cB) (v':Value) (F':List Nat) (a':Pool) (aP:List Nat) (b':Int) (x':bJ) (u:Nat),abv H C.K st.a st.ids id a' aP∧lW a' aP []∧a'.ents.Perm st.a.ents∧aF W0 E H {C with A:=A',v:=v'} w0 G0 w' F' {st with a:=a',ids:=aP,b:=b',x:=x'}∧dV st.x x' 0 u
theorem XO {l t:Int}{g lo gl:Nat}(h:ji l t g lo gl=0):eT l t g lo gl=false:=by
 unfold ji at h;unfold eT;split at h
 ·next h1=>rw[h1];rfl
 ·split at h
  ·cases h
  ·split at h
   ·cases h
   ·split at h<;>cases h
theorem adL {l t:Int}{g lo gl:Nat}(h:eT l t g lo gl=true):gl<5:=by
 unfold eT at h;simp at h;omega
theorem wB {W0:World}{E:Nat→Addr}{H:Nat→Nat}{C:iO}{w0:World}{G0:List Nat}{w:World}{F:List Nat}{st:mW}(h:aF W0 E H C w0 G0 w F st)(id:Nat)(N:Nd)(hN:st.a.Ns[id]?=some N)(hcp:UZ st.a st.ids id):Calls Tryz.prog 62 #[bU C.mb,.int .i64 (id:Int),aR (C.A.nb id)] w fun e w'=>e= .returned undef∧AV W0 E H C w0 G0 st id w':=by
 have HC:=qd h;obtain⟨c0,c1,c11,c12,c13,c14,c15⟩:=HC.out.cells;have hid:=bG hN;have hbd:=h.bounds
 have lJ:id≤1000:=by have:=hbd.2.1;omega
 have h32:id≠32:=by have:=hbd.2.1;omega
 have hO:=hbd.2.2.2 id N hN;obtain⟨Fs,hF,hpo⟩:=h.aC.pool;have DR:=qd (LJ C.A.db C.A.eb st.a.d st.a.l w hpo.dir);obtain⟨hnA,_⟩:=hpo.lK id N hN
 obtain⟨k,Qh,hW,hcase⟩:∃(k:Nat) (Qh:Bool),(Calls Tryz.prog 95 #[aR (C.A.nb id),.int .i64 (st.a.d:Int)] w fun e w'=>e= .returned (.tuple #[.int .i64 (k:Int),.bool Qh])∧Below w.heap.size w w')∧((N.ph.busy=true∧k=0∧Qh=false)∨(N.ph= .idle∧ji N.T.live N.T.bO N.len N.au st.a.d=k∧eT N.T.live N.T.bO N.len N.au st.a.d=Qh)):=by
  cases hb:N.ph.busy with
  |true=>
   exact⟨0,false,Ni st.a.d hnA hb,.inl ⟨rfl,rfl,rfl⟩⟩
  |false=>
   exact⟨_,_,Nj st.a.d hnA hO (SL hb),.inr ⟨SL hb,rfl,rfl⟩⟩
 have HW:=qd hW;have XP:=qd hcase;have HO:=qd hO;have HN:=qd hN;have nL:=qd hcp;have sI:=qd hbd
 have aht:st.ids.length≤33:=by
  have hh:=Kj st.ids (List.range 33) hcp.nd (fun x hx=>by
   rw[List.mem_range];rcases(hcp.jc x).2 hx with⟨M,h1,_⟩|⟨_,h1,_⟩
   ·have:=bG h1;have h3:=hbd.2.1;omega
   ·omega)
  simpa using hh
 clear h hW hcase hO hN hcp hpo hF hnA hbd hid;unfold iB at DR;unfold aR at HW;unfold bU aR;go_in;go_wp2_with fail;refine DR.out.mono ?_;rintro x w1 ⟨rfl,rfl⟩;go_wp2_with fail;refine HW.out.mono ?_;rintro x w1 ⟨rfl,hb⟩;replace HC:=qd (HC.out.below hb);clear c0 c1 c11 c12 c13 c14 c15 DR HW hb;by_cases hk0:k=0
 focus
  subst hk0
  have hki:¬((0:Nat):Int)≠0:=by omega
  have hdb:Qh=false:=by
   rcases XP.out with⟨_,_,h1⟩|⟨_,h1,h2⟩
   ·exact h1
   ·rw[←h2];exact XO h1
  subst hdb
  obtain⟨a1,bK,F1,G5,hC1⟩:∃a1 bK F1,zV st.a st.ids id a1 bK∧(bK=st.ids)∧aF W0 E H C w0 G0 w1 F1 {st with a:=a1,ids:=bK}:=by
   rcases XP.out with⟨h1,_,_⟩|⟨h1,h2,h3⟩
   ·exact⟨st.a,st.ids,F,.busy HN.out h1,rfl,HC.out⟩
   ·obtain⟨Fi,n1,n2,n3,n4,n5,n6⟩:=HC.out.node HN.out;obtain⟨F2,hf2⟩:=n6 w1 Fi [] {N with sl:=0} st.x n1 (ace n2 h1 h2) (fun q hq=> .inl hq) HC.out.aC.met (Mod.refl _ _) (by simp);exact⟨_,st.ids,F2,.none HN.out h1 h2,rfl,hf2⟩
  obtain⟨abx,hC1⟩:=hC1;obtain⟨hsv,hd1,hl1,hc1,he1⟩:=SN nL.out (fun M hM=>by rw[HN.out]at hM;cases hM;exact HO.out) G5;have zm:=qd G5;obtain⟨a2,aL,A1,v1,x2,b2,ha2⟩:∃(a2:Pool) (aL:List Nat) (A1:cB) (v1:Value) (x2:bJ) (b2:Int),a2=a1∧aL=bK∧A1=C.A∧v1=C.v∧x2=st.x∧b2=st.b:=⟨_,_,_,_,_,_,rfl,rfl,rfl,rfl,rfl,rfl⟩;obtain⟨g1,g2,g3,g4,g5,g6⟩:=ha2;have tZ:=qd (show Ee (Qg st.a id) a1 bK a2 aL from by rw[g1,g2];exact .not);have zw:=qd (show Ef a2 aL id from by rw[g1,g2];exact hsv);have lC:=qd (show a2.ents=st.a.ents from by rw[g1];exact he1);have sZ:=qd (show dV st.x x2 0 0 from by rw[g5];exact dV.refl _)
  have U0:aL.length≤40:=by rw[g2,abx];omega
  obtain⟨V,hV⟩:∃V,V=w1:=⟨_,rfl⟩;have yI:=qd (show aF W0 E H {C with A:=A1,v:=v1} w0 G0 V F1 {st with a:=a2,ids:=aL,b:=b2,x:=x2} from by rw[g1,g2,g3,g4,g5,g6,hV];exact hC1);rw[←hV];clear HC hC1 hsv G5 hd1 hl1 hc1 he1 g1 g2 g3 g4 g5 g6 abx hV XP nL sI HO;have HC:=yI;clear yI;go_upto_region 7 with fail
 rotate_left
 focus
  have hki:¬(k:Int)=0:=by omega
  have hcs:N.ph= .idle∧ji N.T.live N.T.bO N.len N.au st.a.d=k∧eT N.T.live N.T.bO N.len N.au st.a.d=Qh:=by
   rcases XP.out with⟨_,h1,_⟩|h1
   ·exact absurd h1 hk0
   ·exact h1
  have Qi:=qd hcs;have G5:=zV.start (ids:=st.ids) HN.out hcs.1 hcs.2.1 hk0;obtain⟨hsv,hd1,hl1,hc1,he1⟩:=SN nL.out (fun M hM=>by rw[HN.out]at hM;cases hM;exact HO.out) G5;have zm:=qd G5;have zw:=qd hsv;have Kl:=qd he1;obtain⟨Fi,n1,n2,n3,n4,n5,n6⟩:=HC.out.node HN.out;have jT:=qd (aas st.a.d k sI.out.1 n1 n2 hcs.1 hcs.2.1 hk0);have HX:=qd n6;have HMb:=qd n3;have Qj:=qd n1.Nz
  have adM:id∉st.ids:=fun hh=>by
   have h1:=(nL.out.jc id).2 hh;rw[GZ HN.out,hcs.1]at h1;cases h1
  have HNi:=qd adM;have HOs:=qd (Po n2 hcs.1 sI.out.1 hcs.2.1 hk0).1;clear hcs G5 hsv hd1 hl1 hc1 he1 n1 n2 n3 n4 n5 n6 adM XP;unfold aR at jT;go_wp2_with fail;refine jT.out.mono ?_;rintro x w2 ⟨rfl,F',q1,q2,q3⟩;obtain⟨F2,hf2⟩:=HX.out w2 F' _ _ st.x q1 HOs.out q2 (HC.out.aC.met.mod q3 (fun hq=>HMb.out (by rw[show C.mb=C.A.nb id from List.mem_singleton.1 hq];exact Qj.out))) q3 (fun q hq=> .inr (by rw[List.mem_singleton.1 hq];exact Qj.out));have yI:=qd hf2;clear hf2 q1 q2 q3 HC jT HX HMb Qj HOs;go_wp2_with fail;refine(jr w2).mono ?_;rintro x w3 ⟨rfl,rfl⟩;have Qk:=qd (Qb yI.out id 122 ⟨C.A.nb id,0,none⟩ (by unfold cB.val cB.jt cB.ja;rw[if_neg h32,if_neg h32]) HNi.out lJ (by show st.ids.length<40;omega));unfold bU at Qk;go_wp2_with fail;refine Qk.out.mono ?_;rintro x w4 ⟨rfl,h4⟩;have oq:=qd h4;clear h4 yI Qk HNi;cases hdv:Qh
  case' false=>
   subst hdv;obtain⟨c0,c1,c11,c12,c13,c14,c15⟩:=oq.out.cells;go_upto_region 7 with fail;clear c0 c1 c11 c12 c13 c14 c15;obtain⟨a2,aL,A1,v1,x2,b2,F1,V,ha2⟩:∃(a2:Pool) (aL:List Nat) (A1:cB) (v1:Value) (x2:bJ) (b2:Int) (F1:List Nat) (V:World),a2={st.a with Ns:=st.a.Ns.set id (N.start k)}∧aL=st.ids++[id]∧A1=C.A∧v1=C.v∧x2=st.x.add (cU 1) 1∧b2=st.b∧F1=F2∧V=w4:=⟨_,_,_,_,_,_,_,_,rfl,rfl,rfl,rfl,rfl,rfl,rfl,rfl⟩;obtain⟨g1,g2,g3,g4,g5,g6,g7,g8⟩:=ha2;obtain⟨a1,bK,hg⟩:∃(a1:Pool) (bK:List Nat),a1=a2∧bK=aL:=⟨_,_,rfl,rfl⟩;obtain⟨g9,g10⟩:=hg;have tZ:=qd (show Ee (Qg st.a id) a1 bK a2 aL from by rw[g9,g10];exact .not);have Eh:=qd (show zV st.a st.ids id a1 bK from by rw[g9,g10,g1,g2];exact zm.out);have Ei:=qd (show Ef a2 aL id from by rw[g1,g2];exact zw.out);have lC:=qd (show a2.ents=st.a.ents from by rw[g1];exact Kl.out);have sZ:=qd (show dV st.x x2 0 1 from by rw[g5];exact sU _ 1)
   have U0:aL.length≤40:=by rw[g2,List.length_append,List.length_singleton];omega
   have kH:=qd (show aF W0 E H {C with A:=A1,v:=v1} w0 G0 V F1 {st with a:=a2,ids:=aL,b:=b2,x:=x2} from by rw[g1,g2,g3,g4,g5,g6,g7,g8];exact oq.out);rw[←g8];clear oq zm zw Kl g1 g2 g3 g4 g5 g6 g7 g8 g9 g10 Qi nL sI HO;have HC:=kH;have zm:=Eh;have zw:=Ei;clear kH Eh Ei
  case' true=>
   cases GX:st.a.cop
   case' some cc=>
    subst hdv;obtain⟨c0,c1,c11,c12,c13,c14,c15⟩:=oq.out.cells
    have hcv:lM C.A st.a.cop= .pointer (some ⟨C.A.cb,0,none⟩):=by unfold lM;rw[GX];rfl
    have aaK:w4.cell? ⟨C.mb,13,none⟩=some (.pointer (some ⟨C.A.cb,0,none⟩)):=by rw[←hcv];exact c13
    clear c13 hcv;go_upto_region 7 with fail;clear c0 c1 c11 c12 aaK c14 c15;obtain⟨a2,aL,A1,v1,x2,b2,F1,V,ha2⟩:∃(a2:Pool) (aL:List Nat) (A1:cB) (v1:Value) (x2:bJ) (b2:Int) (F1:List Nat) (V:World),a2={st.a with Ns:=st.a.Ns.set id (N.start k)}∧aL=st.ids++[id]∧A1=C.A∧v1=C.v∧x2=st.x.add (cU 1) 1∧b2=st.b∧F1=F2∧V=w4:=⟨_,_,_,_,_,_,_,_,rfl,rfl,rfl,rfl,rfl,rfl,rfl,rfl⟩;obtain⟨g1,g2,g3,g4,g5,g6,g7,g8⟩:=ha2;obtain⟨a1,bK,hg⟩:∃(a1:Pool) (bK:List Nat),a1=a2∧bK=aL:=⟨_,_,rfl,rfl⟩;obtain⟨g9,g10⟩:=hg;have tZ:=qd (show Ee (Qg st.a id) a1 bK a2 aL from by rw[g9,g10];exact .not);have Eh:=qd (show zV st.a st.ids id a1 bK from by rw[g9,g10,g1,g2];exact zm.out);have Ei:=qd (show Ef a2 aL id from by rw[g1,g2];exact zw.out);have lC:=qd (show a2.ents=st.a.ents from by rw[g1];exact Kl.out);have sZ:=qd (show dV st.x x2 0 1 from by rw[g5];exact sU _ 1)
    have U0:aL.length≤40:=by rw[g2,List.length_append,List.length_singleton];omega
    have kH:=qd (show aF W0 E H {C with A:=A1,v:=v1} w0 G0 V F1 {st with a:=a2,ids:=aL,b:=b2,x:=x2} from by rw[g1,g2,g3,g4,g5,g6,g7,g8];exact oq.out);rw[←g8];clear oq zm zw Kl g1 g2 g3 g4 g5 g6 g7 g8 g9 g10 Qi nL sI HO;have HC:=kH;have zm:=Eh;have zw:=Ei;clear kH Eh Ei
   case' none=>
    subst hdv;obtain⟨c0,c1,c11,c12,c13,c14,c15⟩:=oq.out.cells
    have hcv:lM C.A st.a.cop= .pointer none:=by unfold lM;rw[GX];rfl
    have aaK:w4.cell? ⟨C.mb,13,none⟩=some (.pointer none):=by rw[←hcv];exact c13
    have hd5:st.a.d<5:=adL Qi.out.2.2;have AU:=qd GX;obtain⟨Fs4,hF4,hp4⟩:=oq.out.aC.pool;have mU:=qd (Rj C.A.db C.A.eb st.a.d st.a.l hd5 w4 hp4.dir)
    have hn32:32∉st.ids++[id]:=fun hh=>by
     rcases List.mem_append.1 hh with h1|h1
     ·rcases(nL.out.jc 32).2 h1 with⟨M,h2,_⟩|⟨_,_,c,h2⟩
      ·have:=bG h2;have h3:=sI.out.2.1;omega
      ·rw[GX]at h2;cases h2
     ·exact h32 (List.mem_singleton.1 h1).symm
    have aaL:=qd hn32;have HD5:=qd hd5;clear c13 hcv hF4 hp4 hn32 GX;unfold iB qm at mU;go_wp2_with fail;refine mU.out.mono ?_;rintro x w5 ⟨cb,fb,fe,rfl,XH,⟨z1,z2,z3⟩,hb5⟩;have XK:=qd XH;have Me:=qd hb5;have hB:=(Met.blk oq.out.aC.met).mod (Mod.of_below hb5 []) (by simp);have e13:w5.cell? ⟨C.mb,13,none⟩=some (lM C.A st.a.cop):=hB.cell 13;have g13:w5.frozen? ⟨C.mb,13,none⟩=false:=hB.frozen 13;clear c0 c1 c11 c12 aaK c14 c15 hB XH hb5 mU;go_wp2_with fail;refine(ZO (some ⟨cb,0,none⟩) w5).mono ?_;rintro x w6 ⟨rfl,rfl⟩;obtain⟨F6,Ej⟩:=oq.out.double AU.out XK.out z1 z2 z3 Me.out aaL.out;go_upto_region 6 with fail;refine dx (F:=fun v=>aF W0 E H {C with A:={C.A with cb:=cb,fb:=fb,fe:=fe},v:=C.v} w0 G0 v F6 {st with a:={st.a with Ns:=st.a.Ns.set id (N.start k),cop:=some (0,List.replicate (2^(st.a.d+1)) 0)},ids:=st.ids++[id],x:=st.x.add (cU 1) 1}) Ej ?_;rintro w7 hC7;have sW:=qd hC7;have k13:w7.cell? ⟨C.mb,13,none⟩=some (.pointer (some ⟨cb,0,none⟩)):=sW.out.cells.2.2.2.2.1;have Qk:=qd (Qb sW.out 32 132 ⟨cb,0,none⟩ (by unfold cB.val cB.jt cB.ja;rw[if_pos rfl,if_pos rfl]) aaL.out (by omega) (by show(st.ids++[id]).length<40;rw[List.length_append,List.length_singleton];omega));unfold bU at Qk;clear Ej hC7 e13 g13 oq XK Me z1 z2 z3;go_wp2_with fail;refine Qk.out.mono ?_;rintro x w8 ⟨rfl,h8⟩;have Mc:=qd h8;clear h8 Qk sW k13
    obtain⟨a2,aL,A1,v1,x2,b2,F1,V,ha2⟩:∃(a2:Pool) (aL:List Nat) (A1:cB) (v1:Value) (x2:bJ) (b2:Int) (F1:List Nat) (V:World),a2={st.a with Ns:=st.a.Ns.set id (N.start k),cop:=some (0,List.replicate (2^(st.a.d+1)) 0)}∧aL=st.ids++[id]++[32]∧A1={C.A with cb:=cb,fb:=fb,fe:=fe}∧v1=C.v∧x2=(st.x.add (cU 1) 1).add (cU 1) 1∧b2=st.b∧F1=F6∧V=w8:=⟨_,_,_,_,_,_,_,_,rfl,rfl,rfl,rfl,rfl,rfl,rfl,rfl⟩;obtain⟨g1,g2,g3,g4,g5,g6,g7,g8⟩:=ha2;obtain⟨a1,bK,hg⟩:∃(a1:Pool) (bK:List Nat),a1={st.a with Ns:=st.a.Ns.set id (N.start k)}∧bK=st.ids++[id]:=⟨_,_,rfl,rfl⟩;obtain⟨g9,g10⟩:=hg
    have hdb:Ee (Qg st.a id) a1 bK a2 aL:=by rw[g9,g10,g1,g2];exact .yes ⟨N,HN.out,Qi.out.2.2⟩ AU.out HD5.out
    have tZ:=qd hdb;have Eh:=qd (show zV st.a st.ids id a1 bK from by rw[g9,g10];exact zm.out);have Ei:=qd (acw (show Ef a1 bK id from by rw[g9,g10];exact zw.out) (by rw[g9];simpa using sI.out.2.1) hdb).1;have lC:=qd (show a2.ents=st.a.ents from by rw[g1];exact Kl.out);have sZ:=qd (show dV st.x x2 (0+0) (1+1)from by rw[g5];exact(sU _ 1).trans (sU _ 1))
    have U0:aL.length≤40:=by rw[g2,List.length_append,List.length_append,List.length_singleton,List.length_singleton];omega
    have kH:=qd (show aF W0 E H {C with A:=A1,v:=v1} w0 G0 V F1 {st with a:=a2,ids:=aL,b:=b2,x:=x2} from by rw[g1,g2,g3,g4,g5,g6,g7,g8];exact Mc.out);rw[←g8];clear Mc zm zw Kl g1 g2 g3 g4 g5 g6 g7 g8 g9 g10 hdb Qi nL sI HO AU HD5 aaL;have HC:=kH;have zm:=Eh;have zw:=Ei;clear kH Eh Ei;go_upto_region 7 with fail
 all_goals
  have F5:=qd (HC.out.below (Below.refl V.heap.size V).drew);have e14:V.cell? ⟨C.mb,14,none⟩=some (.pointer (some ⟨C.sb,0,none⟩)):=HC.out.cells.2.2.2.2.2.1;have hbd:=F5.out.bounds
  have HSe:=qd (Rp F5.out.hp ({C with A:=A1,v:=v1}:iO).s F1 C.K F5.out.kk rfl b2 aL a2 x2 id lJ (fun _=>rfl) (fun j hj=>⟨(zw.out.pre.jc j).2 hj,by
   rcases(zw.out.pre.jc j).2 hj with⟨M,h1,_⟩|⟨_,h1,_⟩
   ·have:=bG h1;have h3:=hbd.2.1;simp only at h3;omega
   ·omega⟩) (World.drew V) F5.out.aC)
  have HS2:=qd (show Calls Tryz.prog 101 #[.pointer (some ⟨C.sb,0,none⟩),.pointer (some ⟨C.mb,3,none⟩),.int .i64 (id:Int)] (World.drew V) _ from HSe.out);clear HSe HC hbd;go_upto_region 7 with fail;refine rT (fun(w':World)=>w'.cell? ⟨C.mb,14,none⟩=some (.pointer (some ⟨C.sb,0,none⟩))) [8] ?_;have hHeld:=e14;refine vW 0 rfl ?_;refine vW 1 rfl ?_;refine vW 2 rfl ?_;refine vT 3 rfl ?_;refine vW 4 rfl ?_;refine vW 5 rfl ?_;refine vW 6 rfl ?_;refine vW 7 rfl ?_;refine vW 10 rfl ?_;refine nT 8 rfl fun K hK=> ?_;go_simp;refine(HS2.out).mono ?_;rintro y V2 ⟨A9,c9,e1,nA,a3,a4,F4,x4,b4,rfl,hrow,hown,hoth,hs,hco,hra⟩;obtain⟨adN,U1⟩:=acy F5.out.kk.1 zw.out hown hoth;have kH:=qd (F5.out.served hs U1.len U1.cop);have AO:=qd adN;have fV:=qd hown;have FZ:=qd hoth;have El:=qd (show a4.ents.Perm st.a.ents from by rw[←lC.out];exact U1.ents);have adO:=qd (sZ.out.trans hco);obtain⟨pend,U2⟩:∃p,p=e1++fT Pool.left a4 nA:=⟨_,rfl⟩;rw[←U2]at hrow hra⊢;have HPe:=qd U2;have Ed:=qd hrow
  have SQ:=qd (show∀g,(Value.slice A9 pend.length c9).ownBlock=some g→g∉({C with A:=A1,v:=v1}:iO).foot F4 from fun g hg hq=>by
   have hl:=(hrow.lt g hg);rcases aY.1 hq with h1|h1|h1|h1
   ·exact hra g hg (by rw[h1];exact List.mem_cons_self ..)
   ·exact hra g hg (List.mem_cons_of_mem _ (List.mem_append_left _ h1))
   ·exact hra g hg (List.mem_cons_of_mem _ (List.mem_append_right _ h1))
   ·have:=(F5.out.row.lt g h1).2;omega)
  obtain⟨bs,hbs⟩:∃bs,bs=(World.drew V).heap.size:=⟨_,rfl⟩;rw[←hbs]at Ed;clear hrow hown hoth hs hco hra adN U1 U2 HS2 F5 zw lC sZ hbs;go_wp2_with fail;refine kO hK ?_;clear hK K;refine vL 9 rfl ?_;refine aX (by kernel_rfl) ?_ _
  have hpl:pend.length≤40:=by
   have h1:=rR FZ.out;have h2:=congrArg List.length h1;rw[List.length_append]at h2;have h3:(fT Pool.left a4 nA).length≤nA.length:=List.length_filter_le _ _;rw[HPe.out,List.length_append];have h4:=U0;omega
  clear e14;go_wp2;go_loopw [9,67] (fun _ v67 wr=>∃(i:Nat) (A':cB) (v':Value) (F':List Nat) (a':Pool) (x':bJ) (u':Nat),i≤pend.length∧v67= .int .i64 (i:Int)∧Hid (aF W0 E H {C with A:=A',v:=v'} w0 G0 wr F' {st with a:=a',ids:=gY Pool.left a4 nA,b:=b4,x:=x'})∧Hid (lW a' (gY Pool.left a4 nA) (pend.drop i))∧Hid (∀c,yJ H a' (pend.drop i) c→yJ H a4 pend c)∧Hid (a'.ents.Perm st.a.ents)∧Hid (dV st.x x' 0 u')∧Hid (wr.ownsRow bs 3 1 (.slice A9 pend.length c9) pend.length (cZ pend))∧Hid (∀g,(Value.slice A9 pend.length c9).ownBlock=some g→g∉({C with A:=A',v:=v'}:iO).foot F')) (fun _ v67 _=>pend.length-(intOf v67).toNat)
  case atStart=>exact⟨0,A1,v1,F4,a4,x4,_,by omega,rfl,kH,qd (by rw[List.drop_zero,HPe.out];exact AO.out),qd (fun _ h=>h),El,adO,Ed,SQ⟩
  case round=>
   clear kH AO El adO Ed SQ;obtain⟨i,A',v',F',a',x',u',hi,rfl,HC,AO,HEa,El,sZ,Ed,SQ⟩:=hrel;by_cases hlt:i<pend.length
   ·have hlt':(i:Int)<(pend.length:Int):=by omega
    have hi0:(0:Int)≤(i:Int):=by omega
    have adD:(i:Int)≤41:=by omega
    obtain⟨j,hj⟩:∃j,pend[i]?=some j:=⟨_,List.getElem?_eq_getElem hlt⟩;obtain⟨g,hA9,hge,hgl,hce,_⟩:=mF Ed.out hj;have Ma:=qd (drop_cons hj);have HU:=qd (Ec HC.out.again 1 (Nat.le_refl _));have HA9:=qd hA9;subst hA9;clear hj;go_wp2_with fail;refine HU.out.mono ?_;rintro y w1 ⟨rfl,h1⟩;have HR1:=qd (jI Ed.out h1.mod (fun k hk=>SQ.out k hk));have aaM:=qd (show∀g',(Value.slice (some ⟨g,0,none⟩) pend.length c9).ownBlock=some g'→g'∉({C with A:=A',v:=v'}:iO).foot F' from SQ.out);have wK:=qd (HC.out.chain h1);have GR:=qd (sZ.out.trans (sU _ 1))
    have hin:lW a' (gY Pool.left a4 nA) (j::pend.drop (i+1)):=by rw[←Ma.out];exact AO.out
    have hbd:=wK.out.bounds;have dX:=qd (aaJ wK.out.again j (pend.drop (i+1)) hin);have adP:=qd (fun(b:Pool) (hb:BX H a' j b)=>aaI hin hb hbd.1 hbd.2.1 hbd.2.2.1);clear h1 hin HC Ed SQ HU AO hce sZ hbd;unfold bU at dX;go_wp2_with fail;refine dX.out.mono ?_;rintro y w2 ⟨rfl,A2,v2,F2,b2',x2',u2',hE,hC2,Ea⟩;obtain⟨k1,k2,k3,k4,k5⟩:=adP.out b2' hE;have yI:=qd (wK.out.chain hC2);have HR2:=qd (jI HR1.out hC2.mod (fun k hk=>aaM.out k hk))
    have afo:=qd (show∀g',(Value.slice (some ⟨g,0,none⟩) pend.length c9).ownBlock=some g'→g'∉({C with A:=A2,v:=v2}:iO).foot F2 from fun g' hg' hq=>by
     rcases hC2.sub g' hq with h1|h1
     ·exact aaM.out g' hg' h1
     ·have:=(HR1.out.lt g' hg').2;omega)
    have HK1:=qd k1;have HK4:=qd (k4.trans El.out);have afp:=qd (fun c (hc:yJ H b2' (pend.drop (i+1)) c)=>HEa.out c (by rw[Ma.out];exact .cons hE hc));have PX:=qd (GR.out.trans Ea);clear hE hC2 Ea k1 k2 k3 k4 k5 wK HR1 aaM dX adP HEa El GR;go_wp2;go_roundw
    case rel=>exact⟨i+1,A2,v2,F2,b2',x2',_,by omega,by go_num,yI,HK1,afp,HK4,PX,HR2,afo⟩
    case measure=>simp[intOf];omega
   ·obtain rfl:i=pend.length:=by omega
    have hlt':¬(pend.length:Int)<(pend.length:Int):=by omega
    have hIn:=AO.out;have hEa:=HEa.out;rw[List.drop_length]at hIn hEa;have HEx:=qd (show AV W0 E H C w0 G0 st id wr from⟨A',v',F',a',_,b4,x',u',⟨a1,bK,a2,aL,a3,e1,nA,a4,zm.out,tZ.out,fV.out,FZ.out,by rw[←HPe.out];exact hEa a' (.nil a'),rfl⟩,hIn,El.out,HC.out,sZ.out⟩);clear hIn hEa;go_wp2;go_end0
    first|exact⟨rfl,HEx.out⟩|exact HEx.out
end
section
variable {a : Pool} {e : ay} {id key : Nat} {N : Nd}
theorem U3 {H:Nat→Nat}(hd:eO a)(h5:a.d≤5)(ho:∀(i:Nat) (N:Nd),a.Ns[i]?=some N→eu H N):(a.ents.map ay.key).Nodup:=by
 unfold Pool.ents;rw[List.map_flatMap];unfold List.Nodup;rw[List.pairwise_flatMap];refine⟨fun N hN=> ?_, ?_⟩
 ·obtain⟨i,hi⟩:=List.getElem?_of_mem hN;exact(ho i N hi).keys
 ·rw[List.pairwise_iff_getElem];intro i j hi hj hij x hx y hy hxy;obtain⟨e,he,rfl⟩:=List.mem_map.1 hx;obtain⟨e',he',rfl⟩:=List.mem_map.1 hy;have g1:a.Ns[i]?=some a.Ns[i]:=List.getElem?_eq_getElem hi;have g2:a.Ns[j]?=some a.Ns[j]:=List.getElem?_eq_getElem hj;obtain⟨k1,k2⟩:=(ho _ _ g1).hash e he;obtain⟨k3,k4⟩:=(ho _ _ g2).hash e' he'
  have hh:e.hash=e'.hash:=by rw[k1.hash,k3.hash,hxy]
  have a1:=hd.Qa k1.h64 h5 g1 k2;have a2:=hd.Qa k3.h64 h5 g2 k4;rw[hh,a2]at a1;omega
theorem o8:e∈a.ents↔∃(i:Nat) (N:Nd),a.Ns[i]?=some N∧e∈N.ents:=by
 unfold Pool.ents;rw[List.mem_flatMap];constructor
 ·rintro⟨N,h1,h2⟩;obtain⟨i,hi⟩:=List.getElem?_of_mem h1;exact⟨i,N,hi,h2⟩
 ·rintro⟨i,N,h1,h2⟩;exact⟨N,List.mem_of_getElem? h1,h2⟩
theorem Mf {H:Nat→Nat}(hd:eO a)(h5:a.d≤5)(ho:∀(i:Nat) (N:Nd),a.Ns[i]?=some N→eu H N)(hid:a.l.getD (dZ (H key) a.d) 0=id)(hN:a.Ns[id]?=some N)(he:e∈a.ents)(hk:e.key=key):e∈N.ents:=by
 obtain⟨j,M,h1,h2⟩:=o8.1 he;obtain⟨k1,k2⟩:=(ho j M h1).hash e h2;have:=hd.Qa k1.h64 h5 h1 k2;rw[k1.hash,hk,hid]at this;subst this;rw[hN]at h1;cases h1;exact h2
theorem Ql {H:Nat→Nat}{ids:List Nat}{N1:Nd}{del add:List ay}(h:lW a ids [])(hN:a.Ns[id]?=some N)(hw:Wr H del add N N1):UZ {a with Ns:=a.Ns.set id N1} ids id:=by
 have hid:=bG hN;have hget:=mJ (N':=N1) hid;have hL:=hw.like;refine⟨h.dir.alike hN hL.pfx hL.au (fun hb hk=>h.dir.split id N hN (by rw[←hL.busy];exact hb) (by rw[←hL.kind];exact hk)),fun j=> ?_,h.nd,fun j hj=> ?_,fun i X hX hi=> ?_⟩
 ·have:=h.jc j;simp only[List.not_mem_nil,or_false]at this;rw[←this];unfold Pool.can;simp only;rw[hget];by_cases hj:j=id
  ·subst hj;rw[if_pos rfl,hN];simp[hL.busy]
  ·rw[if_neg hj]
 ·have:=h.some_ j hj;unfold Pool.left at this⊢;simp only;rw[hget];by_cases hj2:j=id
  ·subst hj2;rw[if_pos rfl];rw[hN]at this;show 1≤N1.left;rw[hw.left];exact this
  ·rw[if_neg hj2];exact this
 ·have iq:(a.Ns.set id N1)[i]?=some X:=hX;rw[hget,if_neg hi]at iq;exact h.sl i X iq (by simp)
def Em (W0:World)(E:Nat→Addr)(H:Nat→Nat)(C:iO)(w0:World)(G0:List Nat)(st:mW)(id:Nat)(del add:List ay)(len':Nat)(w':World):Prop:=
 ∃(N N1:Nd) (x1:bJ),st.a.Ns[id]?=some N∧Wr H del add N N1∧dV ⟨st.x.all,⟨0,0,0⟩⟩ x1 128 0∧AV W0 E H C w0 G0 {st with a:={st.a with Ns:=st.a.Ns.set id N1},len:=len',x:=x1} id w'
section
variable {W0 : World} {E : Nat → Addr} {H : Nat → Nat} {C : iO} {w0 : World} {G0 : List Nat} {w w' : World} {F : List Nat} {st : mW}
theorem tq (h:aF W0 E H C w0 G0 w F st):Calls Tryz.prog 57 #[.pointer (some ⟨C.mb,3,none⟩)] w fun e w'=>e= .returned undef∧aF W0 E H C w0 G0 w' F {st with x:=⟨st.x.all,⟨0,0,0⟩⟩}:=
 (Fq C.mb _ _ _ 3 st.x.all st.x.last C.m w h.aC.met).mono fun _ _ ⟨h1,h2,h3⟩=>⟨h1,h.met h2 h3⟩
theorem Wr.refl (h:eu H N):Wr H [] [] N N:=⟨Like.refl N,rfl,⟨N.ents,by simp,by simp⟩,h,fun _=>rfl,fun _=>Nat.le_add_right _ _⟩
end
theorem AV.chain {W0:World}{E:Nat→Addr}{H:Nat→Nat}{C:iO}{w0:World}{G0:List Nat}{w w':World}{F:List Nat}{st:mW}(h:aF W0 E H C w0 G0 w F st)(k:AV W0 E H C w (C.foot F) st id w'):AV W0 E H C w0 G0 st id w'∧Mod (C.foot F) w w':=by
 obtain⟨A',v',F',a',aP,b',x',u,k1,k2,k3,k4,k5⟩:=k;exact⟨⟨A',v',F',a',aP,b',x',u,k1,k2,k3,h.chain k4,k5⟩,k4.mod⟩
end
section
variable {W0 w w0 : World} {E : Nat → Addr} {H : Nat → Nat} {C : iO} {F G0 : List Nat} {st : mW}
theorem aF.aside {w':World}{b:Nat}(hC:aF W0 E H C w0 G0 w F st)(hm:Mod [b] w w')(hb:b∉C.foot F)(h0:w0.heap.size≤b):aF W0 E H C w0 G0 w' F st:=by
 rw[aY]at hb;simp only[not_or]at hb
 have hd:∀q∈[b],q≠C.mb∧q∉C.s.blocks∧q∉F∧C.v.ownBlock≠some q:=fun q hq=>by rw[List.mem_singleton.1 hq];exact hb
 have hW:=hC.qz;refine⟨bq.start (hC.aC.aC.mod hm (fun q hq dK=>(hd q dK).2.1 hq)) (hC.hp.zR hC.aC.pool hm (fun q hq dK=>(hd q dK).2.2.1 hq)) (hC.aC.met.mod hm (fun hq=>(hd _ hq).1 rfl)) (hC.aC.env.mod hm (fun q hq=>by rw[List.mem_singleton.1 hq];omega)) hC.aC.apart hC.aC.vJ,jI hC.row hm (fun k hk Ju=>(hd k Ju).2.2.2 hk),hC.AQ,hC.pos,hC.kk,hC.mm,hC.qz,hC.sub,hC.mod.trans hm (fun _ hh _=>hh) (fun k hk hl=> ?_)⟩;rw[List.mem_singleton.1 hk]at hl;omega
def XQ (W0:World)(E:Nat→Addr)(H:Nat→Nat)(C:iO)(w0:World)(G0:List Nat)(F:List Nat)(st:mW)(key hash:Nat)(v:Value)(w':World):Prop:=
 ∃(id:Nat) (N:Nd) (o:Option ay) (x':bJ),st.a.Ns[id]?=some N∧id=st.a.l.getD (dZ hash st.a.d) 0∧fP ⟨key,0,hash⟩ N.ents o∧v= .tuple #[aW (o.getD ⟨0,0,0⟩),.bool o.isSome,.int .u64 ((lg N.pfx N.au:Nat):Int)]∧aF W0 E H C w0 G0 w' F {st with x:=x'}∧dV ⟨st.x.all,⟨0,0,0⟩⟩ x' 192 0
theorem U4 (h:aF W0 E H C w0 G0 w F st)(hi:lW st.a st.ids [])(key hash:Nat)(h64:hash<18446744073709551616):Calls Tryz.prog 110 #[bU C.mb,.int .u64 (hash:Int),.int .u64 (key:Int)] w fun e w'=>∃v,e= .returned v∧XQ W0 E H C w0 G0 F st key hash v w':=by
 have hbd:=h.bounds;have sI:=qd hbd;obtain⟨N,hN,htp⟩:=hi.dir.at_ h64 hbd.1;obtain⟨id,hid⟩:∃id,id=st.a.l.getD (dZ hash st.a.d) 0:=⟨_,rfl⟩;rw[←hid]at hN;have HN:=qd hN;have p8:=qd hid;have HC:=qd (h.below ((Below.refl w.heap.size w).alloc (Nat.le_refl _) (.cells #[.int .u64 0,.int .u64 0,.int .u64 0] 148)));have kQ:=qd (aj.new w 148 #[.int .u64 0,.int .u64 0,.int .u64 0]);have Iw:=qd (show w0.heap.size≤w.heap.size from h.mod.size);have Qm:=qd (show w.heap.size∉C.foot F from fun hq=>by have:=h.iE _ hq;omega);clear h hi hbd hN hid htp;unfold bU;go_in;go_upto_region 1 with fail;refine dx (F:=fun v=>aF W0 E H C w0 G0 v F st∧aj v w.heap.size 148 #[.int .u64 0,.int .u64 0,.int .u64 0]) ⟨HC.out,kQ.out⟩ ?_;clear HC kQ;rintro w1 ⟨hC,hB⟩;obtain⟨bx,hbx⟩:∃bx,bx=w.heap.size:=⟨_,rfl⟩;rw[←hbx]at Qm Iw hB⊢;have hne:bx≠C.mb:=fun e=>Qm.out (aY.2 (.inl e));have mV:=qd hne;have HC:=qd hC;have kQ:=qd hB;have lZ:=qd (tq hC.again);clear hC hB hbx hne;go_wp2_with fail;refine lZ.out.mono ?_;rintro y w2 ⟨rfl,h2⟩;replace kQ:=qd (kQ.out.mod h2.mod Qm.out);replace HC:=qd (HC.out.chain h2);clear h2 lZ;have p9:=qd (AR HC.out hash id h64 p8.out.symm (bG HN.out));unfold bU aR at p9;go_wp2_with fail;refine p9.out.mono ?_;rintro y w3 ⟨rfl,hb⟩;replace HC:=qd (HC.out.below hb);replace kQ:=qB hb kQ;clear hb p9;go_wp2_with fail;refine(nJ (some ⟨C.mb,3,none⟩) w3).mono ?_;rintro y w4 ⟨rfl,hb⟩;replace HC:=qd (HC.out.below hb);replace kQ:=qB hb kQ;clear hb
 obtain⟨Fi,n1,n2,n3,n4,n5,n6⟩:=HC.out.node HN.out;have sN:=qd (aat key hash n1 n2 HC.out.aC.met HC.out.aC.env HC.out.aC.vJ n3);have vH:=qd (show N.pfx<2^N.au∧N.au≤16 from⟨n2.pfx,by have:=n2.deep;omega⟩);clear n1 n2 n3 n4 n5 n6;unfold aR at sN;unfold qh aW at sN;go_wp2_with fail;refine sN.out.mono ?_;rintro y w5 ⟨o,x5,rfl,ho,q3,q4,q5⟩;have HO:=qd ho;have sZ:=qd q4;replace HC:=qd (HC.out.met q3 q5);replace kQ:=qd (kQ.out.mod q5 (fun hq=>mV.out (List.mem_singleton.1 hq)));clear ho q3 q4 q5 sN;obtain⟨e0,he0⟩:∃e0:ay,e0=o.getD ⟨0,0,0⟩:=⟨_,rfl⟩;obtain⟨bs,hbs⟩:∃bs,bs=o.isSome:=⟨_,rfl⟩;rw[←he0,←hbs];have HE0:=qd he0;have HB0:=qd hbs;clear he0 hbs;have b:=kQ.out.c3;have g:=kQ.out.f3;have hnew:=((kQ.out.ak 0 (.int .u64 (e0.key:Int))).ak 1 (.int .u64 (e0.val:Int))).ak 2 (.int .u64 (e0.hash:Int));have hm:=(((Mod.refl [bx] w5).sl 0 (.int .u64 (e0.key:Int))).sl 1 (.int .u64 (e0.val:Int))).sl 2 (.int .u64 (e0.hash:Int));simp only[pt]at hnew;have mU:=qd hnew;have XR:=qd hm;clear hnew hm;go_upto_region 4 with fail;refine dx (F:=fun v=>aj v bx 148 #[.int .u64 (e0.key:Int),.int .u64 (e0.val:Int),.int .u64 (e0.hash:Int)]∧Mod [bx] w5 v) ⟨mU.out,XR.out⟩ ?_;clear mU XR;rintro w6 ⟨kE,oo⟩;replace HC:=qd (HC.out.aside oo Qm.out Iw.out);replace kQ:=qd kE;clear kE oo b g;obtain⟨Fi,n1,n2,n3,n4,n5,n6⟩:=HC.out.node HN.out;have lC:=qd (LY (HC.out.below (Below.refl w6.heap.size w6).drew|>.node HN.out|>.choose_spec|>.1));clear n1 n2 n3 n4 n5 n6;obtain⟨pf,hpf⟩:∃pf,pf=N.pfx:=⟨_,rfl⟩
 obtain⟨dp,hdp⟩:∃dp,dp=N.au:=⟨_,rfl⟩;rw[←hpf,←hdp]at lC;have hpw:=vH.out;rw[←hpf,←hdp]at hpw;obtain⟨hpl,hdl⟩:=hpw;have XI:=qd hpf;have DR:=qd hdp;unfold aR at lC;clear hpf hdp vH;have b:=kQ.out.c3;refine rT (fun(w':World)=>w'.cell? ⟨bx,0,none⟩=some (.int .u64 (e0.key:Int))∧w'.cell? ⟨bx,1,none⟩=some (.int .u64 (e0.val:Int))∧w'.cell? ⟨bx,2,none⟩=some (.int .u64 (e0.hash:Int))) [] ?_;have hHeld:=(⟨b.1,b.2.1,b.2.2⟩:_∧_∧_);refine vT 0 rfl ?_;refine vW 1 rfl ?_;refine vW 2 rfl ?_;refine nT 3 rfl fun K hK=> ?_;go_simp;refine(lC.out).mono ?_;rintro y w7 ⟨rfl,hd7⟩;replace HC:=qd (HC.out.below ((Below.refl w6.heap.size w6).drew.drew));replace kQ:=qd kQ.out.drew.drew;rw[hd7]at HC kQ;clear hd7 lC b;have b:=kQ.out.c3;go_wp2_with fail;have hHeld:=(⟨b.1,b.2.1,b.2.2⟩:_∧_∧_);refine kO hK ?_;clear hK K;refine vW 4 rfl ?_;refine vW 5 rfl ?_;refine nT 6 rfl fun K hK=> ?_;go_simp;refine(TL pf dp hdl hpl w7).mono ?_;rintro y w8 ⟨rfl,rfl⟩;obtain⟨hg,hhg⟩:∃hg,hg=lg pf dp:=⟨_,rfl⟩;rw[←hhg];have HHg:=qd hhg;clear hhg;go_wp2_with fail;have hHeld:=(⟨b.1,b.2.1,b.2.2⟩:_∧_∧_);refine kO hK ?_;clear hK K;refine vW 7 rfl ?_;refine vW 8 rfl ?_;refine nT 9 rfl fun K hK=> ?_;go_simp;refine(ZN (hg:Int) w7).mono ?_;rintro y w9 ⟨rfl,rfl⟩;go_wp2_with fail;have hHeld:=(⟨b.1,b.2.1,b.2.2⟩:_∧_∧_);refine kO hK ?_;clear hK K;refine nT 10 rfl fun K hK=> ?_;have g:=kQ.out.f3;have hnew:=((kQ.out.ak 0 (.int .u64 (e0.key:Int))).ak 1 (.int .u64 (e0.val:Int))).ak 2 (.int .u64 (e0.hash:Int))
 have hm:=(((Mod.refl [bx] w7).sl 0 (.int .u64 (e0.key:Int))).sl 1 (.int .u64 (e0.val:Int))).sl 2 (.int .u64 (e0.hash:Int));simp only[pt]at hnew;have mU:=qd hnew;have XR:=qd hm;clear hnew hm;go_simp;refine dx (F:=fun v=>aj v bx 148 #[.int .u64 (e0.key:Int),.int .u64 (e0.val:Int),.int .u64 (e0.hash:Int)]∧Mod [bx] w7 v) ⟨mU.out,XR.out⟩ ?_;clear mU XR b g;rintro Sc ⟨kE,oo⟩;replace HC:=qd (HC.out.aside oo Qm.out Iw.out);replace kQ:=qd kE;clear kE oo;have b:=kQ.out.c3;have hHeld:=(⟨b.1,b.2.1,b.2.2⟩:_∧_∧_);refine kO hK ?_;clear hK K;refine vW 11 rfl ?_;refine vW 12 rfl ?_;refine aX (by kernel_rfl) ?_ _;go_wp2;refine bodyPost_ret (v:= .tuple #[.agg #[.int .u64 (e0.key:Int),.int .u64 (e0.val:Int),.int .u64 (e0.hash:Int)],.bool bs,.int .u64 (hg:Int)]) (by simp[results,Tryz.results110,go_sem,b.1,b.2.1,b.2.2]) rfl ?_;have hfin:XQ W0 E H C w0 G0 F st key hash (.tuple #[.agg #[.int .u64 (e0.key:Int),.int .u64 (e0.val:Int),.int .u64 (e0.hash:Int)],.bool bs,.int .u64 (hg:Int)]) Sc:=⟨id,N,o,x5,HN.out,p8.out,HO.out,by rw[HE0.out,HB0.out,HHg.out,XI.out,DR.out];rfl,HC.out,sZ.out⟩
 first|exact⟨_,rfl,hfin⟩|exact hfin|exact⟨rfl,hfin⟩
end
end Go.Proofs.YtjfgpnapccdnlaaGreatDoor
