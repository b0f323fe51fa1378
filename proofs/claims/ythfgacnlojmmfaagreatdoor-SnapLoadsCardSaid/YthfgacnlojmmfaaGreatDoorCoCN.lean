/- A core's maintain by its contract. -/
import Derived.Test.YthfgacnlojmmfaaGreatDoorCoCM
import Derived.Test.YthfgacnlojmmfaaGreatDoorCoN
import Derived.Test.YthfgacnlojmmfaaGreatDoorLaneP
namespace Go.Proofs.YthfgacnlojmmfaaGreatDoor
set_option maxRecDepth 100000
set_option maxHeartbeats 8000000
open Go.RowKit AmC
section
variable {W0 : World} {E : Nat → Addr} {H : Nat → Nat} {C : CPl} {w0 : World} {G0 : List Nat} {w w' : World} {F : List Nat} {st : CSt}
theorem CoreF.double (h:CoreF W0 E H C w0 G0 w F st){cb fb fe:Nat}{w1:World}(hc:st.a.cop=none)(hC:CopAt w1 cb C.A.db C.A.eb fb fe st.a.d 0 st.a.l (List.replicate (2^(st.a.d+1)) 0))(h1:w.heap.size≤cb)(h2:w.heap.size≤fb)(h3:w.heap.size≤fe)(hb:Below w.heap.size w w1)(hids:32∉st.ids):
  ∃F',CoreF W0 E H {C with A:={C.A with cb:=cb,fb:=fb,fe:=fe},v:=C.v} w0 G0 (w1.setCell ⟨C.mb,13,none⟩ (.pointer (some ⟨cb,0,none⟩))) F' {st with a:={st.a with cop:=some (0,List.replicate (2^(st.a.d+1)) 0)}}:=by
 obtain⟨Fs,hF,hp⟩:=h.sch.pool;have hml:C.mb<w.heap.size:=h.sch.met.lt;have hm:Mod [C.mb] w (w1.setCell ⟨C.mb,13,none⟩ (.pointer (some ⟨cb,0,none⟩))):=(Mod.of_below hb [C.mb]).set_ (.inl (by simp)) _ _;have hmb:∀q∈F,q∉[C.mb]:=fun q hq e=>h.hp.mb h.sch.pool (by show C.mb∈F;rw[←List.mem_singleton.1 e];exact hq);have hlts:=h.lts;have hFl:∀q∈F,q<w.heap.size:=fun q hq=>hlts q (mem_foot.2 (.inr (.inr (.inl hq))));have hFs:∀i,i<st.a.Ns.length→∀q∈Fs i,q∈F:=fun i hi q hq=>hF▸mem_footP.2 (.inl ⟨i,hi,hq⟩);have hFd:∀q∈C.A.dirF st.a.cop,q∈F:=fun q hq=>hF▸mem_footP.2 (.inr hq)
 have hC2:CopAt (w1.setCell ⟨C.mb,13,none⟩ (.pointer (some ⟨cb,0,none⟩))) cb C.A.db C.A.eb fb fe st.a.d 0 st.a.l (List.replicate (2^(st.a.d+1)) 0):=
  hC.mod (S:=[C.mb]) ((Mod.refl _ w1).set_ (.inl (by simp)) _ _) (fun q hq hqS=>by
   have:=List.mem_singleton.1 hqS;simp at hq;rcases hq with e|e|e|e|e
   ·omega
   ·exact hmb q (hFd q (by unfold Adr.dirF;simp[e])) (by simp[this])
   ·exact hmb q (hFd q (by unfold Adr.dirF;simp[e])) (by simp[this])
   ·omega
   ·omega)
 have hdf:∀q,q∈({C.A with cb:=cb,fb:=fb,fe:=fe}:Adr).dirF (some (0,List.replicate (2^(st.a.d+1)) 0))↔q∈C.A.dirF st.a.cop∨q=cb∨q=fb∨q=fe:=fun q=>by
  unfold Adr.dirF;rw[hc];simp;omega
 have hin:∀q,q∈footP ({C.A with cb:=cb,fb:=fb,fe:=fe}:Adr) Fs {st.a with cop:=some (0,List.replicate (2^(st.a.d+1)) 0)}→q∈F∨w.heap.size≤q:=fun q hq=>by
  rcases mem_footP.1 hq with⟨i,hi,hq2⟩|hq2
  ·exact .inl (hFs i hi q hq2)
  ·rcases(hdf q).1 hq2 with e|e|e|e
   ·exact .inl (hFd q e)
   ·exact .inr (by omega)
   ·exact .inr (by omega)
   ·exact .inr (by omega)
 have hP:PoolIn W0 C.mb H ({C.A with cb:=cb,fb:=fb,fe:=fe}:Adr) (w1.setCell ⟨C.mb,13,none⟩ (.pointer (some ⟨cb,0,none⟩))) Fs {st.a with cop:=some (0,List.replicate (2^(st.a.d+1)) 0)}:=
  ⟨fun i N hN=>⟨(hp.nds i N hN).1.mod hm (fun q hq=>hmb q (hFs i (get_lt hN) q hq)),(hp.nds i N hN).2⟩,hC2.old,fun next lf he=>by
   have:=Option.some.inj he;cases this
   exact hC2,hp.sep,fun i hi q hq hq2=>by
   have hq':=hFs i hi q hq;rcases(hdf q).1 hq2 with e|e|e|e
   ·exact hp.sepD i hi q hq e
   ·have:=hFl q hq';omega
   ·have:=hFl q hq';omega
   ·have:=hFl q hq';omega,fun q hq=>by
   rcases hin q hq with e|e
   ·exact hp.low q (hF▸e)
   ·have:=h.sch.env.size;omega,fun hq=>by
   rcases hin _ hq with e|e
   ·exact hmb _ e (by simp)
   ·omega,hp.le32⟩
 refine⟨_,h.upd {C.A with cb:=cb,fb:=fb,fe:=fe} C.v {st with a:={st.a with cop:=some (0,List.replicate (2^(st.a.d+1)) 0)}} hm (fun q hq=>mem_foot.2 (.inl (List.mem_singleton.1 hq))) ((h.sch.sch.mod hm (fun q hq hqS=>(h.sch.apart q hq).2.1 (List.mem_singleton.1 hqS))).reval (fun id hid=> ?_)) ⟨Fs,rfl,hP⟩ ⟨rfl, ?_⟩ (core_row (st:=st) h hm (fun q hq=> .inl (List.mem_singleton.1 hq))) h.pos hin (fun g hg=>⟨.inl hg,fun hh=>by have:=(h.row.lt g hg).2;omega⟩)⟩
 ·have hne:id≠32:=fun e=>hids (e▸hid);show C.A.val id=({C.A with cb:=cb,fb:=fb,fe:=fe}:Adr).val id;unfold Adr.val Adr.ja;simp only;rw[if_neg hne,if_neg hne];rfl
 ·exact((Met.blk h.sch.met).mod (Mod.of_below hb []) (by simp)).set_ 13 _
end
theorem sched_Serve {W0:World}{E:Nat→Addr}{P:MP}{α:Type}{jt:Nat→TypeId}{ja:Nat→Addr}{At:World→List Nat→α→Prop}{can:α→Nat→Prop}{left:α→Nat→Nat}{Stp:α→Nat→α→Prop}(HP:PoolOk W0 E P jt ja At can left Stp)(s:SP)(F:List Nat)(K:Nat)(hK:1≤K∧K≤64)(hk:s.k=(K:Int))(b:Int)(ids:List Nat)(a:α)(x:Mtr)(own:Nat)(h1000:own≤1000)(hval:∀id,s.val id= .iface (jt id) (.pointer (some (ja id))))(hcan:∀id∈ids,can a id∧id≤1000)(w:World)(h:SchSt W0 E P At s w F w b ids a F x):
  Calls Tryz.prog 110 #[schP s.sb,mtrP P,.int .i64 (own:Int)] w fun e w'=>∃A cc e1 ids1 a1 a2 F' x' b',e= .returned (.slice A (e1++doneL left a2 ids1).length cc)∧w'.ownsRow w.heap.size 3 1 (.slice A (e1++doneL left a2 ids1).length cc) (e1++doneL left a2 ids1).length (intVals (e1++doneL left a2 ids1))∧OwnRun left Stp ids own (8*K) a a1∧Oth left Stp K ids a1 e1 ids1 a2∧SchSt W0 E P At s w F w' b' (liveL left a2 ids1) a2 F' x'∧Cost x x' 0 (9*K)∧RowAp P s F' (.slice A (e1++doneL left a2 ids1).length cc):=by
 by_cases hin:own∈ids
 ·exact sched_Serve_in HP s F K hK hk b ids a x own h1000 hin hval hcan w h
 ·exact sched_Serve_out HP s F K hK hk b ids a x own h1000 hin hval hcan w h
def MtPost (W0:World)(E:Nat→Addr)(H:Nat→Nat)(C:CPl)(w0:World)(G0:List Nat)(st:CSt)(id:Nat)(w':World):Prop:=
 ∃(A':Adr) (v':Value) (F':List Nat) (a':Pool) (ids':List Nat) (b':Int) (x':Mtr) (u:Nat),Maint H C.K st.a st.ids id a' ids'∧CInv a' ids' []∧a'.ents.Perm st.a.ents∧CoreF W0 E H {C with A:=A',v:=v'} w0 G0 w' F' {st with a:=a',ids:=ids',b:=b',x:=x'}∧Cost st.x x' 0 u
theorem which_dbl {l t:Int}{g lo gl:Nat}(h:whichK l t g lo gl=0):doubleB l t g lo gl=false:=by
 unfold whichK at h;unfold doubleB;split at h
 ·next h1=>rw[h1];rfl
 ·split at h
  ·cases h
  ·split at h
   ·cases h
   ·split at h<;>cases h
theorem dbl_lt {l t:Int}{g lo gl:Nat}(h:doubleB l t g lo gl=true):gl<5:=by
 unfold doubleB at h;simp at h;omega
theorem core_maintain {W0:World}{E:Nat→Addr}{H:Nat→Nat}{C:CPl}{w0:World}{G0:List Nat}{w:World}{F:List Nat}{st:CSt}(h:CoreF W0 E H C w0 G0 w F st)(id:Nat)(N:Nd)(hN:st.a.Ns[id]?=some N)(hcp:CPre st.a st.ids id):Calls Tryz.prog 76 #[coreP C.mb,.int .i64 (id:Int),nodeP (C.A.nb id)] w fun e w'=>e= .returned undef∧MtPost W0 E H C w0 G0 st id w':=by
 have HC:=qd h;obtain⟨c0,c1,c11,c12,c13,c14,c15⟩:=HC.out.cells;have hid:=get_lt hN;have hbd:=h.bounds
 have h1000:id≤1000:=by have:=hbd.2.1;omega
 have h32:id≠32:=by have:=hbd.2.1;omega
 have hO:=hbd.2.2.2 id N hN;obtain⟨Fs,hF,hpo⟩:=h.sch.pool;have HDp:=qd (dir_Depth C.A.db C.A.eb st.a.d st.a.l w hpo.dir);obtain⟨hnA,_⟩:=hpo.nds id N hN
 obtain⟨k,dbl,hW,hcase⟩:∃(k:Nat) (dbl:Bool),(Calls Tryz.prog 104 #[nodeP (C.A.nb id),.int .i64 (st.a.d:Int)] w fun e w'=>e= .returned (.tuple #[.int .i64 (k:Int),.bool dbl])∧Below w.heap.size w w')∧((N.ph.busy=true∧k=0∧dbl=false)∨(N.ph= .idle∧whichK N.T.live N.T.tombs N.len N.dpt st.a.d=k∧doubleB N.T.live N.T.tombs N.len N.dpt st.a.d=dbl)):=by
  cases hb:N.ph.busy with
  |true=>exact⟨0,false,nd_Wants_busy st.a.d hnA hb,.inl ⟨rfl,rfl,rfl⟩⟩
  |false=>exact⟨_,_,nd_Wants_idle st.a.d hnA hO (busy_of hb),.inr ⟨busy_of hb,rfl,rfl⟩⟩
 have HW:=qd hW;have HCa:=qd hcase;have HO:=qd hO;have HN:=qd hN;have HCp:=qd hcp;have HBd:=qd hbd
 have hi34:st.ids.length≤33:=by
  have hh:=sub_len st.ids (List.range 33) hcp.nd (fun x hx=>by
   rw[List.mem_range];rcases(hcp.can_ x).2 hx with⟨M,h1,_⟩|⟨_,h1,_⟩
   ·have:=get_lt h1;have h3:=hbd.2.1;omega
   ·omega)
  simpa using hh
 clear h hW hcase hO hN hcp hpo hF hnA hbd hid;unfold dirP at HDp;unfold nodeP at HW;unfold coreP nodeP;go_in;go_wp2_with fail;refine HDp.out.mono ?_;rintro x w1 ⟨rfl,rfl⟩;go_wp2_with fail;refine HW.out.mono ?_;rintro x w1 ⟨rfl,hb⟩;replace HC:=qd (HC.out.below hb);clear c0 c1 c11 c12 c13 c14 c15 HDp HW hb;by_cases hk0:k=0
 ·subst hk0
  have hki:¬((0:Nat):Int)≠0:=by omega
  have hdb:dbl=false:=by
   rcases HCa.out with⟨_,_,h1⟩|⟨_,h1,h2⟩
   ·exact h1
   ·rw[←h2];exact which_dbl h1
  subst hdb
  obtain⟨a1,ids1,F1,hbeg,hC1⟩:∃a1 ids1 F1,BegS st.a st.ids id a1 ids1∧(ids1=st.ids)∧CoreF W0 E H C w0 G0 w1 F1 {st with a:=a1,ids:=ids1}:=by
   rcases HCa.out with⟨h1,_,_⟩|⟨h1,h2,h3⟩
   ·exact⟨st.a,st.ids,F,.busy HN.out h1,rfl,HC.out⟩
   ·obtain⟨Fi,n1,n2,n3,n4,n5,n6⟩:=HC.out.node HN.out;obtain⟨F2,hf2⟩:=n6 w1 Fi [] {N with sl:=0} st.x n1 (none_ok n2 h1 h2) (fun q hq=> .inl hq) HC.out.sch.met (Mod.refl _ _) (by simp);exact⟨_,st.ids,F2,.none HN.out h1 h2,rfl,hf2⟩
  obtain⟨hids1,hC1⟩:=hC1;obtain⟨hsv,hd1,hl1,hc1,he1⟩:=beg_srv HCp.out (fun M hM=>by rw[HN.out]at hM;cases hM;exact HO.out) hbeg;have HBg:=qd hbeg;obtain⟨a2,ids2,A1,v1,x2,b2,ha2⟩:∃(a2:Pool) (ids2:List Nat) (A1:Adr) (v1:Value) (x2:Mtr) (b2:Int),a2=a1∧ids2=ids1∧A1=C.A∧v1=C.v∧x2=st.x∧b2=st.b:=⟨_,_,_,_,_,_,rfl,rfl,rfl,rfl,rfl,rfl⟩;obtain⟨g1,g2,g3,g4,g5,g6⟩:=ha2;have HDb:=qd (show DblS (DblB st.a id) a1 ids1 a2 ids2 from by rw[g1,g2];exact .not);have HSv:=qd (show CSrv a2 ids2 id from by rw[g1,g2];exact hsv);have HPr:=qd (show a2.ents=st.a.ents from by rw[g1];exact he1);have HCo:=qd (show Cost st.x x2 0 0 from by rw[g5];exact Cost.refl _)
  have hi40:ids2.length≤40:=by rw[g2,hids1];omega
  obtain⟨V,hV⟩:∃V,V=w1:=⟨_,rfl⟩;have HC2:=qd (show CoreF W0 E H {C with A:=A1,v:=v1} w0 G0 V F1 {st with a:=a2,ids:=ids2,b:=b2,x:=x2} from by rw[g1,g2,g3,g4,g5,g6,hV];exact hC1);rw[←hV];clear HC hC1 hsv hbeg hd1 hl1 hc1 he1 g1 g2 g3 g4 g5 g6 hids1 hV HCa HCp HBd HO;have HC:=HC2;clear HC2;go_upto_region 7 with fail;have HC9:=qd (HC.out.below (Below.refl V.heap.size V).drew);have e14:V.cell? ⟨C.mb,14,none⟩=some (.pointer (some ⟨C.sb,0,none⟩)):=HC.out.cells.2.2.2.2.2.1;have hbd:=HC9.out.bounds
  have HSe:=qd (sched_Serve HC9.out.hp ({C with A:=A1,v:=v1}:CPl).s F1 C.K HC9.out.kk rfl b2 ids2 a2 x2 id h1000 (fun _=>rfl) (fun j hj=>⟨(HSv.out.pre.can_ j).2 hj,by
   rcases(HSv.out.pre.can_ j).2 hj with⟨M,h1,_⟩|⟨_,h1,_⟩
   ·have:=get_lt h1;have h3:=hbd.2.1;simp only at h3;omega
   ·omega⟩) (World.drew V) HC9.out.sch)
  have HS2:=qd (show Calls Tryz.prog 110 #[.pointer (some ⟨C.sb,0,none⟩),.pointer (some ⟨C.mb,3,none⟩),.int .i64 (id:Int)] (World.drew V) _ from HSe.out);clear HSe HC hbd;go_upto_region 7 with fail;refine rT (fun(w':World)=>w'.cell? ⟨C.mb,14,none⟩=some (.pointer (some ⟨C.sb,0,none⟩))) [8] ?_;have hHeld:=e14;refine vW 0 rfl ?_;refine vW 1 rfl ?_;refine vW 2 rfl ?_;refine vT 3 rfl ?_;refine vW 4 rfl ?_;refine vW 5 rfl ?_;refine vW 6 rfl ?_;refine vW 7 rfl ?_;refine vW 10 rfl ?_;refine nT 8 rfl fun K hK=> ?_;go_simp;refine(HS2.out).mono ?_;rintro y V2 ⟨A9,c9,e1,ids3,a3,a4,F4,x4,b4,rfl,hrow,hown,hoth,hs,hco,hra⟩;obtain⟨hin4,hst4⟩:=srv_inv HC9.out.kk.1 HSv.out hown hoth;have HC4:=qd (HC9.out.served hs hst4.len hst4.cop);have HIn:=qd hin4;have HOw:=qd hown;have HOt:=qd hoth;have HPm:=qd (show a4.ents.Perm st.a.ents from by rw[←HPr.out];exact hst4.ents);have HCo4:=qd (HCo.out.trans hco);obtain⟨pend,hpend⟩:∃p,p=e1++doneL Pool.left a4 ids3:=⟨_,rfl⟩;rw[←hpend]at hrow hra⊢;have HPe:=qd hpend;have HRo:=qd hrow
  have HRa:=qd (show∀g,(Value.slice A9 pend.length c9).ownBlock=some g→g∉({C with A:=A1,v:=v1}:CPl).foot F4 from fun g hg hq=>by
   have hl:=(hrow.lt g hg);rcases mem_foot.1 hq with h1|h1|h1|h1
   ·exact hra g hg (by rw[h1];exact List.mem_cons_self ..)
   ·exact hra g hg (List.mem_cons_of_mem _ (List.mem_append_left _ h1))
   ·exact hra g hg (List.mem_cons_of_mem _ (List.mem_append_right _ h1))
   ·have:=(HC9.out.row.lt g h1).2;omega)
  obtain⟨bs,hbs⟩:∃bs,bs=(World.drew V).heap.size:=⟨_,rfl⟩;rw[←hbs]at HRo;clear hrow hown hoth hs hco hra hin4 hst4 hpend HS2 HC9 HSv HPr HCo hbs;go_wp2_with fail;refine kO hK ?_;clear hK K;refine vL 9 rfl ?_;refine doneT (by kernel_rfl) ?_ _
  have hpl:pend.length≤40:=by
   have h1:=oth_ids HOt.out;have h2:=congrArg List.length h1;rw[List.length_append]at h2;have h3:(doneL Pool.left a4 ids3).length≤ids3.length:=List.length_filter_le _ _;rw[HPe.out,List.length_append];have h4:=hi40;omega
  clear e14;go_wp2;go_loopw [9,67] (fun _ v67 wr=>∃(i:Nat) (A':Adr) (v':Value) (F':List Nat) (a':Pool) (x':Mtr) (u':Nat),i≤pend.length∧v67= .int .i64 (i:Int)∧Hid (CoreF W0 E H {C with A:=A',v:=v'} w0 G0 wr F' {st with a:=a',ids:=liveL Pool.left a4 ids3,b:=b4,x:=x'})∧Hid (CInv a' (liveL Pool.left a4 ids3) (pend.drop i))∧Hid (∀c,EndAll H a' (pend.drop i) c→EndAll H a4 pend c)∧Hid (a'.ents.Perm st.a.ents)∧Hid (Cost st.x x' 0 u')∧Hid (wr.ownsRow bs 3 1 (.slice A9 pend.length c9) pend.length (intVals pend))∧Hid (∀g,(Value.slice A9 pend.length c9).ownBlock=some g→g∉({C with A:=A',v:=v'}:CPl).foot F')) (fun _ v67 _=>pend.length-(intOf v67).toNat)
  case atStart=>exact⟨0,A1,v1,F4,a4,x4,_,by omega,rfl,HC4,qd (by rw[List.drop_zero,HPe.out];exact HIn.out),qd (fun _ h=>h),HPm,HCo4,HRo,HRa⟩
  case round=>
   clear HC4 HIn HPm HCo4 HRo HRa;obtain⟨i,A',v',F',a',x',u',hi,rfl,HC,HIn,HEa,HPm,HCo,HRo,HRa⟩:=hrel;by_cases hlt:i<pend.length
   ·have hlt':(i:Int)<(pend.length:Int):=by omega
    have hi0:(0:Int)≤(i:Int):=by omega
    have hi41:(i:Int)≤41:=by omega
    obtain⟨j,hj⟩:∃j,pend[i]?=some j:=⟨_,List.getElem?_eq_getElem hlt⟩;obtain⟨g,hA9,hge,hgl,hce,_⟩:=intVals_cell HRo.out hj;have HDr:=qd (drop_cons hj);have HU:=qd (core_Unit HC.out.again 1 (Nat.le_refl _));have HA9:=qd hA9;subst hA9;clear hj;go_wp2_with fail;refine HU.out.mono ?_;rintro y w1 ⟨rfl,h1⟩;have HR1:=qd (own_far HRo.out h1.mod (fun k hk=>HRa.out k hk));have HRa1:=qd (show∀g',(Value.slice (some ⟨g,0,none⟩) pend.length c9).ownBlock=some g'→g'∉({C with A:=A',v:=v'}:CPl).foot F' from HRa.out);have HC1:=qd (HC.out.chain h1);have HCo1:=qd (HCo.out.trans (cost_U _ 1))
    have hin:CInv a' (liveL Pool.left a4 ids3) (j::pend.drop (i+1)):=by rw[←HDr.out];exact HIn.out
    have hbd:=HC1.out.bounds;have HEn:=qd (core_end HC1.out.again j (pend.drop (i+1)) hin);have HIn2:=qd (fun(b:Pool) (hb:EndS H a' j b)=>endS_inv hin hb hbd.1 hbd.2.1 hbd.2.2.1);clear h1 hin HC HRo HRa HU HIn hce HCo hbd;unfold coreP at HEn;go_wp2_with fail;refine HEn.out.mono ?_;rintro y w2 ⟨rfl,A2,v2,F2,b2',x2',u2',hE,hC2,hco2⟩;obtain⟨k1,k2,k3,k4,k5⟩:=HIn2.out b2' hE;have HC2:=qd (HC1.out.chain hC2);have HR2:=qd (own_far HR1.out hC2.mod (fun k hk=>HRa1.out k hk))
    have HRa2:=qd (show∀g',(Value.slice (some ⟨g,0,none⟩) pend.length c9).ownBlock=some g'→g'∉({C with A:=A2,v:=v2}:CPl).foot F2 from fun g' hg' hq=>by
     rcases hC2.sub g' hq with h1|h1
     ·exact HRa1.out g' hg' h1
     ·have:=(HR1.out.lt g' hg').2;omega)
    have HK1:=qd k1;have HK4:=qd (k4.trans HPm.out);have HEa2:=qd (fun c (hc:EndAll H b2' (pend.drop (i+1)) c)=>HEa.out c (by rw[HDr.out];exact .cons hE hc));have HCo2:=qd (HCo1.out.trans hco2);clear hE hC2 hco2 k1 k2 k3 k4 k5 HC1 HR1 HRa1 HEn HIn2 HEa HPm HCo1;go_wp2;go_roundw
    case rel=>exact⟨i+1,A2,v2,F2,b2',x2',_,by omega,by go_num,HC2,HK1,HEa2,HK4,HCo2,HR2,HRa2⟩
    case measure=>simp[intOf];omega
   ·obtain rfl:i=pend.length:=by omega
    have hlt':¬(pend.length:Int)<(pend.length:Int):=by omega
    have hIn:=HIn.out;have hEa:=HEa.out;rw[List.drop_length]at hIn hEa;have HEx:=qd (show MtPost W0 E H C w0 G0 st id wr from⟨A',v',F',a',_,b4,x',u',⟨a1,ids1,a2,ids2,a3,e1,ids3,a4,HBg.out,HDb.out,HOw.out,HOt.out,by rw[←HPe.out];exact hEa a' (.nil a'),rfl⟩,hIn,HPm.out,HC.out,HCo.out⟩);clear hIn hEa;go_wp2;go_end0
    first|exact⟨rfl,HEx.out⟩|exact HEx.out
 ·have hki:¬(k:Int)=0:=by omega
  have hcs:N.ph= .idle∧whichK N.T.live N.T.tombs N.len N.dpt st.a.d=k∧doubleB N.T.live N.T.tombs N.len N.dpt st.a.d=dbl:=by
   rcases HCa.out with⟨_,h1,_⟩|h1
   ·exact absurd h1 hk0
   ·exact h1
  have HCs:=qd hcs;have hbeg:=BegS.start (ids:=st.ids) HN.out hcs.1 hcs.2.1 hk0;obtain⟨hsv,hd1,hl1,hc1,he1⟩:=beg_srv HCp.out (fun M hM=>by rw[HN.out]at hM;cases hM;exact HO.out) hbeg;have HBg:=qd hbeg;have HSv:=qd hsv;have HPr1:=qd he1;obtain⟨Fi,n1,n2,n3,n4,n5,n6⟩:=HC.out.node HN.out;have HSt:=qd (nd_Start st.a.d k HBd.out.1 n1 n2 hcs.1 hcs.2.1 hk0);have HX:=qd n6;have HMb:=qd n3;have HNb:=qd n1.nb_in
  have hnid:id∉st.ids:=fun hh=>by
   have h1:=(HCp.out.can_ id).2 hh;rw[can_node HN.out,hcs.1]at h1;cases h1
  have HNi:=qd hnid;have HOs:=qd (start_ok n2 hcs.1 HBd.out.1 hcs.2.1 hk0).1;clear hcs hbeg hsv hd1 hl1 hc1 he1 n1 n2 n3 n4 n5 n6 hnid HCa;unfold nodeP at HSt;go_wp2_with fail;refine HSt.out.mono ?_;rintro x w2 ⟨rfl,F',q1,q2,q3⟩;obtain⟨F2,hf2⟩:=HX.out w2 F' _ _ st.x q1 HOs.out q2 (HC.out.sch.met.mod q3 (fun hq=>HMb.out (by rw[show C.mb=C.A.nb id from List.mem_singleton.1 hq];exact HNb.out))) q3 (fun q hq=> .inr (by rw[List.mem_singleton.1 hq];exact HNb.out));have HC2:=qd hf2;clear hf2 q1 q2 q3 HC HSt HX HMb HNb HOs;go_wp2_with fail;refine(trap_Raise w2).mono ?_;rintro x w3 ⟨rfl,rfl⟩;have HAd:=qd (core_add HC2.out id 135 ⟨C.A.nb id,0,none⟩ (by unfold Adr.val Adr.jt Adr.ja;rw[if_neg h32,if_neg h32]) HNi.out h1000 (by show st.ids.length<40;omega));unfold coreP at HAd;go_wp2_with fail;refine HAd.out.mono ?_;rintro x w4 ⟨rfl,h4⟩;have HC3:=qd h4;clear h4 HC2 HAd HNi
  cases hdv:dbl with
  |false=>
   subst hdv;obtain⟨c0,c1,c11,c12,c13,c14,c15⟩:=HC3.out.cells;go_upto_region 7 with fail;clear c0 c1 c11 c12 c13 c14 c15;obtain⟨a2,ids2,A1,v1,x2,b2,F1,V,ha2⟩:∃(a2:Pool) (ids2:List Nat) (A1:Adr) (v1:Value) (x2:Mtr) (b2:Int) (F1:List Nat) (V:World),a2={st.a with Ns:=st.a.Ns.set id (N.start k)}∧ids2=st.ids++[id]∧A1=C.A∧v1=C.v∧x2=st.x.add (cU 1) 1∧b2=st.b∧F1=F2∧V=w4:=⟨_,_,_,_,_,_,_,_,rfl,rfl,rfl,rfl,rfl,rfl,rfl,rfl⟩;obtain⟨g1,g2,g3,g4,g5,g6,g7,g8⟩:=ha2;obtain⟨a1,ids1,hg⟩:∃(a1:Pool) (ids1:List Nat),a1=a2∧ids1=ids2:=⟨_,_,rfl,rfl⟩;obtain⟨g9,g10⟩:=hg;have HDb:=qd (show DblS (DblB st.a id) a1 ids1 a2 ids2 from by rw[g9,g10];exact .not);have HBg1:=qd (show BegS st.a st.ids id a1 ids1 from by rw[g9,g10,g1,g2];exact HBg.out);have HSv1:=qd (show CSrv a2 ids2 id from by rw[g1,g2];exact HSv.out);have HPr:=qd (show a2.ents=st.a.ents from by rw[g1];exact HPr1.out);have HCo:=qd (show Cost st.x x2 0 1 from by rw[g5];exact cost_U _ 1)
   have hi40:ids2.length≤40:=by rw[g2,List.length_append,List.length_singleton];omega
   have HC4:=qd (show CoreF W0 E H {C with A:=A1,v:=v1} w0 G0 V F1 {st with a:=a2,ids:=ids2,b:=b2,x:=x2} from by rw[g1,g2,g3,g4,g5,g6,g7,g8];exact HC3.out);rw[←g8];clear HC3 HBg HSv HPr1 g1 g2 g3 g4 g5 g6 g7 g8 g9 g10 HCs HCp HBd HO;have HC:=HC4;have HBg:=HBg1;have HSv:=HSv1;clear HC4 HBg1 HSv1;have HC9:=qd (HC.out.below (Below.refl V.heap.size V).drew);have e14:V.cell? ⟨C.mb,14,none⟩=some (.pointer (some ⟨C.sb,0,none⟩)):=HC.out.cells.2.2.2.2.2.1;have hbd:=HC9.out.bounds
   have HSe:=qd (sched_Serve HC9.out.hp ({C with A:=A1,v:=v1}:CPl).s F1 C.K HC9.out.kk rfl b2 ids2 a2 x2 id h1000 (fun _=>rfl) (fun j hj=>⟨(HSv.out.pre.can_ j).2 hj,by
    rcases(HSv.out.pre.can_ j).2 hj with⟨M,h1,_⟩|⟨_,h1,_⟩
    ·have:=get_lt h1;have h3:=hbd.2.1;simp only at h3;omega
    ·omega⟩) (World.drew V) HC9.out.sch)
   have HS2:=qd (show Calls Tryz.prog 110 #[.pointer (some ⟨C.sb,0,none⟩),.pointer (some ⟨C.mb,3,none⟩),.int .i64 (id:Int)] (World.drew V) _ from HSe.out);clear HSe HC hbd;go_upto_region 7 with fail;refine rT (fun(w':World)=>w'.cell? ⟨C.mb,14,none⟩=some (.pointer (some ⟨C.sb,0,none⟩))) [8] ?_;have hHeld:=e14;refine vW 0 rfl ?_;refine vW 1 rfl ?_;refine vW 2 rfl ?_;refine vT 3 rfl ?_;refine vW 4 rfl ?_;refine vW 5 rfl ?_;refine vW 6 rfl ?_;refine vW 7 rfl ?_;refine vW 10 rfl ?_;refine nT 8 rfl fun K hK=> ?_;go_simp;refine(HS2.out).mono ?_;rintro y V2 ⟨A9,c9,e1,ids3,a3,a4,F4,x4,b4,rfl,hrow,hown,hoth,hs,hco,hra⟩;obtain⟨hin4,hst4⟩:=srv_inv HC9.out.kk.1 HSv.out hown hoth;have HC4:=qd (HC9.out.served hs hst4.len hst4.cop);have HIn:=qd hin4;have HOw:=qd hown;have HOt:=qd hoth;have HPm:=qd (show a4.ents.Perm st.a.ents from by rw[←HPr.out];exact hst4.ents);have HCo4:=qd (HCo.out.trans hco);obtain⟨pend,hpend⟩:∃p,p=e1++doneL Pool.left a4 ids3:=⟨_,rfl⟩;rw[←hpend]at hrow hra⊢;have HPe:=qd hpend;have HRo:=qd hrow
   have HRa:=qd (show∀g,(Value.slice A9 pend.length c9).ownBlock=some g→g∉({C with A:=A1,v:=v1}:CPl).foot F4 from fun g hg hq=>by
    have hl:=(hrow.lt g hg);rcases mem_foot.1 hq with h1|h1|h1|h1
    ·exact hra g hg (by rw[h1];exact List.mem_cons_self ..)
    ·exact hra g hg (List.mem_cons_of_mem _ (List.mem_append_left _ h1))
    ·exact hra g hg (List.mem_cons_of_mem _ (List.mem_append_right _ h1))
    ·have:=(HC9.out.row.lt g h1).2;omega)
   obtain⟨bs,hbs⟩:∃bs,bs=(World.drew V).heap.size:=⟨_,rfl⟩;rw[←hbs]at HRo;clear hrow hown hoth hs hco hra hin4 hst4 hpend HS2 HC9 HSv HPr HCo hbs;go_wp2_with fail;refine kO hK ?_;clear hK K;refine vL 9 rfl ?_;refine doneT (by kernel_rfl) ?_ _
   have hpl:pend.length≤40:=by
    have h1:=oth_ids HOt.out;have h2:=congrArg List.length h1;rw[List.length_append]at h2;have h3:(doneL Pool.left a4 ids3).length≤ids3.length:=List.length_filter_le _ _;rw[HPe.out,List.length_append];have h4:=hi40;omega
   clear e14;go_wp2;go_loopw [9,67] (fun _ v67 wr=>∃(i:Nat) (A':Adr) (v':Value) (F':List Nat) (a':Pool) (x':Mtr) (u':Nat),i≤pend.length∧v67= .int .i64 (i:Int)∧Hid (CoreF W0 E H {C with A:=A',v:=v'} w0 G0 wr F' {st with a:=a',ids:=liveL Pool.left a4 ids3,b:=b4,x:=x'})∧Hid (CInv a' (liveL Pool.left a4 ids3) (pend.drop i))∧Hid (∀c,EndAll H a' (pend.drop i) c→EndAll H a4 pend c)∧Hid (a'.ents.Perm st.a.ents)∧Hid (Cost st.x x' 0 u')∧Hid (wr.ownsRow bs 3 1 (.slice A9 pend.length c9) pend.length (intVals pend))∧Hid (∀g,(Value.slice A9 pend.length c9).ownBlock=some g→g∉({C with A:=A',v:=v'}:CPl).foot F')) (fun _ v67 _=>pend.length-(intOf v67).toNat)
   case atStart=>exact⟨0,A1,v1,F4,a4,x4,_,by omega,rfl,HC4,qd (by rw[List.drop_zero,HPe.out];exact HIn.out),qd (fun _ h=>h),HPm,HCo4,HRo,HRa⟩
   case round=>
    clear HC4 HIn HPm HCo4 HRo HRa;obtain⟨i,A',v',F',a',x',u',hi,rfl,HC,HIn,HEa,HPm,HCo,HRo,HRa⟩:=hrel;by_cases hlt:i<pend.length
    ·have hlt':(i:Int)<(pend.length:Int):=by omega
     have hi0:(0:Int)≤(i:Int):=by omega
     have hi41:(i:Int)≤41:=by omega
     obtain⟨j,hj⟩:∃j,pend[i]?=some j:=⟨_,List.getElem?_eq_getElem hlt⟩;obtain⟨g,hA9,hge,hgl,hce,_⟩:=intVals_cell HRo.out hj;have HDr:=qd (drop_cons hj);have HU:=qd (core_Unit HC.out.again 1 (Nat.le_refl _));have HA9:=qd hA9;subst hA9;clear hj;go_wp2_with fail;refine HU.out.mono ?_;rintro y w1 ⟨rfl,h1⟩;have HR1:=qd (own_far HRo.out h1.mod (fun k hk=>HRa.out k hk));have HRa1:=qd (show∀g',(Value.slice (some ⟨g,0,none⟩) pend.length c9).ownBlock=some g'→g'∉({C with A:=A',v:=v'}:CPl).foot F' from HRa.out);have HC1:=qd (HC.out.chain h1);have HCo1:=qd (HCo.out.trans (cost_U _ 1))
     have hin:CInv a' (liveL Pool.left a4 ids3) (j::pend.drop (i+1)):=by rw[←HDr.out];exact HIn.out
     have hbd:=HC1.out.bounds;have HEn:=qd (core_end HC1.out.again j (pend.drop (i+1)) hin);have HIn2:=qd (fun(b:Pool) (hb:EndS H a' j b)=>endS_inv hin hb hbd.1 hbd.2.1 hbd.2.2.1);clear h1 hin HC HRo HRa HU HIn hce HCo hbd;unfold coreP at HEn;go_wp2_with fail;refine HEn.out.mono ?_;rintro y w2 ⟨rfl,A2,v2,F2,b2',x2',u2',hE,hC2,hco2⟩;obtain⟨k1,k2,k3,k4,k5⟩:=HIn2.out b2' hE;have HC2:=qd (HC1.out.chain hC2);have HR2:=qd (own_far HR1.out hC2.mod (fun k hk=>HRa1.out k hk))
     have HRa2:=qd (show∀g',(Value.slice (some ⟨g,0,none⟩) pend.length c9).ownBlock=some g'→g'∉({C with A:=A2,v:=v2}:CPl).foot F2 from fun g' hg' hq=>by
      rcases hC2.sub g' hq with h1|h1
      ·exact HRa1.out g' hg' h1
      ·have:=(HR1.out.lt g' hg').2;omega)
     have HK1:=qd k1;have HK4:=qd (k4.trans HPm.out);have HEa2:=qd (fun c (hc:EndAll H b2' (pend.drop (i+1)) c)=>HEa.out c (by rw[HDr.out];exact .cons hE hc));have HCo2:=qd (HCo1.out.trans hco2);clear hE hC2 hco2 k1 k2 k3 k4 k5 HC1 HR1 HRa1 HEn HIn2 HEa HPm HCo1;go_wp2;go_roundw
     case rel=>exact⟨i+1,A2,v2,F2,b2',x2',_,by omega,by go_num,HC2,HK1,HEa2,HK4,HCo2,HR2,HRa2⟩
     case measure=>simp[intOf];omega
    ·obtain rfl:i=pend.length:=by omega
     have hlt':¬(pend.length:Int)<(pend.length:Int):=by omega
     have hIn:=HIn.out;have hEa:=HEa.out;rw[List.drop_length]at hIn hEa;have HEx:=qd (show MtPost W0 E H C w0 G0 st id wr from⟨A',v',F',a',_,b4,x',u',⟨a1,ids1,a2,ids2,a3,e1,ids3,a4,HBg.out,HDb.out,HOw.out,HOt.out,by rw[←HPe.out];exact hEa a' (.nil a'),rfl⟩,hIn,HPm.out,HC.out,HCo.out⟩);clear hIn hEa;go_wp2;go_end0
     first|exact⟨rfl,HEx.out⟩|exact HEx.out
  |true=>
   cases hcop:st.a.cop with
   |some cc=>
    subst hdv;obtain⟨c0,c1,c11,c12,c13,c14,c15⟩:=HC3.out.cells
    have hcv:copVal C.A st.a.cop= .pointer (some ⟨C.A.cb,0,none⟩):=by unfold copVal;rw[hcop];rfl
    have c13':w4.cell? ⟨C.mb,13,none⟩=some (.pointer (some ⟨C.A.cb,0,none⟩)):=by rw[←hcv];exact c13
    clear c13 hcv;go_upto_region 7 with fail;clear c0 c1 c11 c12 c13' c14 c15;obtain⟨a2,ids2,A1,v1,x2,b2,F1,V,ha2⟩:∃(a2:Pool) (ids2:List Nat) (A1:Adr) (v1:Value) (x2:Mtr) (b2:Int) (F1:List Nat) (V:World),a2={st.a with Ns:=st.a.Ns.set id (N.start k)}∧ids2=st.ids++[id]∧A1=C.A∧v1=C.v∧x2=st.x.add (cU 1) 1∧b2=st.b∧F1=F2∧V=w4:=⟨_,_,_,_,_,_,_,_,rfl,rfl,rfl,rfl,rfl,rfl,rfl,rfl⟩;obtain⟨g1,g2,g3,g4,g5,g6,g7,g8⟩:=ha2;obtain⟨a1,ids1,hg⟩:∃(a1:Pool) (ids1:List Nat),a1=a2∧ids1=ids2:=⟨_,_,rfl,rfl⟩;obtain⟨g9,g10⟩:=hg;have HDb:=qd (show DblS (DblB st.a id) a1 ids1 a2 ids2 from by rw[g9,g10];exact .not);have HBg1:=qd (show BegS st.a st.ids id a1 ids1 from by rw[g9,g10,g1,g2];exact HBg.out);have HSv1:=qd (show CSrv a2 ids2 id from by rw[g1,g2];exact HSv.out);have HPr:=qd (show a2.ents=st.a.ents from by rw[g1];exact HPr1.out);have HCo:=qd (show Cost st.x x2 0 1 from by rw[g5];exact cost_U _ 1)
    have hi40:ids2.length≤40:=by rw[g2,List.length_append,List.length_singleton];omega
    have HC4:=qd (show CoreF W0 E H {C with A:=A1,v:=v1} w0 G0 V F1 {st with a:=a2,ids:=ids2,b:=b2,x:=x2} from by rw[g1,g2,g3,g4,g5,g6,g7,g8];exact HC3.out);rw[←g8];clear HC3 HBg HSv HPr1 g1 g2 g3 g4 g5 g6 g7 g8 g9 g10 HCs HCp HBd HO;have HC:=HC4;have HBg:=HBg1;have HSv:=HSv1;clear HC4 HBg1 HSv1;have HC9:=qd (HC.out.below (Below.refl V.heap.size V).drew);have e14:V.cell? ⟨C.mb,14,none⟩=some (.pointer (some ⟨C.sb,0,none⟩)):=HC.out.cells.2.2.2.2.2.1;have hbd:=HC9.out.bounds
    have HSe:=qd (sched_Serve HC9.out.hp ({C with A:=A1,v:=v1}:CPl).s F1 C.K HC9.out.kk rfl b2 ids2 a2 x2 id h1000 (fun _=>rfl) (fun j hj=>⟨(HSv.out.pre.can_ j).2 hj,by
     rcases(HSv.out.pre.can_ j).2 hj with⟨M,h1,_⟩|⟨_,h1,_⟩
     ·have:=get_lt h1;have h3:=hbd.2.1;simp only at h3;omega
     ·omega⟩) (World.drew V) HC9.out.sch)
    have HS2:=qd (show Calls Tryz.prog 110 #[.pointer (some ⟨C.sb,0,none⟩),.pointer (some ⟨C.mb,3,none⟩),.int .i64 (id:Int)] (World.drew V) _ from HSe.out);clear HSe HC hbd;go_upto_region 7 with fail;refine rT (fun(w':World)=>w'.cell? ⟨C.mb,14,none⟩=some (.pointer (some ⟨C.sb,0,none⟩))) [8] ?_;have hHeld:=e14;refine vW 0 rfl ?_;refine vW 1 rfl ?_;refine vW 2 rfl ?_;refine vT 3 rfl ?_;refine vW 4 rfl ?_;refine vW 5 rfl ?_;refine vW 6 rfl ?_;refine vW 7 rfl ?_;refine vW 10 rfl ?_;refine nT 8 rfl fun K hK=> ?_;go_simp;refine(HS2.out).mono ?_;rintro y V2 ⟨A9,c9,e1,ids3,a3,a4,F4,x4,b4,rfl,hrow,hown,hoth,hs,hco,hra⟩;obtain⟨hin4,hst4⟩:=srv_inv HC9.out.kk.1 HSv.out hown hoth;have HC4:=qd (HC9.out.served hs hst4.len hst4.cop);have HIn:=qd hin4;have HOw:=qd hown;have HOt:=qd hoth;have HPm:=qd (show a4.ents.Perm st.a.ents from by rw[←HPr.out];exact hst4.ents);have HCo4:=qd (HCo.out.trans hco);obtain⟨pend,hpend⟩:∃p,p=e1++doneL Pool.left a4 ids3:=⟨_,rfl⟩;rw[←hpend]at hrow hra⊢;have HPe:=qd hpend;have HRo:=qd hrow
    have HRa:=qd (show∀g,(Value.slice A9 pend.length c9).ownBlock=some g→g∉({C with A:=A1,v:=v1}:CPl).foot F4 from fun g hg hq=>by
     have hl:=(hrow.lt g hg);rcases mem_foot.1 hq with h1|h1|h1|h1
     ·exact hra g hg (by rw[h1];exact List.mem_cons_self ..)
     ·exact hra g hg (List.mem_cons_of_mem _ (List.mem_append_left _ h1))
     ·exact hra g hg (List.mem_cons_of_mem _ (List.mem_append_right _ h1))
     ·have:=(HC9.out.row.lt g h1).2;omega)
    obtain⟨bs,hbs⟩:∃bs,bs=(World.drew V).heap.size:=⟨_,rfl⟩;rw[←hbs]at HRo;clear hrow hown hoth hs hco hra hin4 hst4 hpend HS2 HC9 HSv HPr HCo hbs;go_wp2_with fail;refine kO hK ?_;clear hK K;refine vL 9 rfl ?_;refine doneT (by kernel_rfl) ?_ _
    have hpl:pend.length≤40:=by
     have h1:=oth_ids HOt.out;have h2:=congrArg List.length h1;rw[List.length_append]at h2;have h3:(doneL Pool.left a4 ids3).length≤ids3.length:=List.length_filter_le _ _;rw[HPe.out,List.length_append];have h4:=hi40;omega
    clear e14;go_wp2;go_loopw [9,67] (fun _ v67 wr=>∃(i:Nat) (A':Adr) (v':Value) (F':List Nat) (a':Pool) (x':Mtr) (u':Nat),i≤pend.length∧v67= .int .i64 (i:Int)∧Hid (CoreF W0 E H {C with A:=A',v:=v'} w0 G0 wr F' {st with a:=a',ids:=liveL Pool.left a4 ids3,b:=b4,x:=x'})∧Hid (CInv a' (liveL Pool.left a4 ids3) (pend.drop i))∧Hid (∀c,EndAll H a' (pend.drop i) c→EndAll H a4 pend c)∧Hid (a'.ents.Perm st.a.ents)∧Hid (Cost st.x x' 0 u')∧Hid (wr.ownsRow bs 3 1 (.slice A9 pend.length c9) pend.length (intVals pend))∧Hid (∀g,(Value.slice A9 pend.length c9).ownBlock=some g→g∉({C with A:=A',v:=v'}:CPl).foot F')) (fun _ v67 _=>pend.length-(intOf v67).toNat)
    case atStart=>exact⟨0,A1,v1,F4,a4,x4,_,by omega,rfl,HC4,qd (by rw[List.drop_zero,HPe.out];exact HIn.out),qd (fun _ h=>h),HPm,HCo4,HRo,HRa⟩
    case round=>
     clear HC4 HIn HPm HCo4 HRo HRa;obtain⟨i,A',v',F',a',x',u',hi,rfl,HC,HIn,HEa,HPm,HCo,HRo,HRa⟩:=hrel;by_cases hlt:i<pend.length
     ·have hlt':(i:Int)<(pend.length:Int):=by omega
      have hi0:(0:Int)≤(i:Int):=by omega
      have hi41:(i:Int)≤41:=by omega
      obtain⟨j,hj⟩:∃j,pend[i]?=some j:=⟨_,List.getElem?_eq_getElem hlt⟩;obtain⟨g,hA9,hge,hgl,hce,_⟩:=intVals_cell HRo.out hj;have HDr:=qd (drop_cons hj);have HU:=qd (core_Unit HC.out.again 1 (Nat.le_refl _));have HA9:=qd hA9;subst hA9;clear hj;go_wp2_with fail;refine HU.out.mono ?_;rintro y w1 ⟨rfl,h1⟩;have HR1:=qd (own_far HRo.out h1.mod (fun k hk=>HRa.out k hk));have HRa1:=qd (show∀g',(Value.slice (some ⟨g,0,none⟩) pend.length c9).ownBlock=some g'→g'∉({C with A:=A',v:=v'}:CPl).foot F' from HRa.out);have HC1:=qd (HC.out.chain h1);have HCo1:=qd (HCo.out.trans (cost_U _ 1))
      have hin:CInv a' (liveL Pool.left a4 ids3) (j::pend.drop (i+1)):=by rw[←HDr.out];exact HIn.out
      have hbd:=HC1.out.bounds;have HEn:=qd (core_end HC1.out.again j (pend.drop (i+1)) hin);have HIn2:=qd (fun(b:Pool) (hb:EndS H a' j b)=>endS_inv hin hb hbd.1 hbd.2.1 hbd.2.2.1);clear h1 hin HC HRo HRa HU HIn hce HCo hbd;unfold coreP at HEn;go_wp2_with fail;refine HEn.out.mono ?_;rintro y w2 ⟨rfl,A2,v2,F2,b2',x2',u2',hE,hC2,hco2⟩;obtain⟨k1,k2,k3,k4,k5⟩:=HIn2.out b2' hE;have HC2:=qd (HC1.out.chain hC2);have HR2:=qd (own_far HR1.out hC2.mod (fun k hk=>HRa1.out k hk))
      have HRa2:=qd (show∀g',(Value.slice (some ⟨g,0,none⟩) pend.length c9).ownBlock=some g'→g'∉({C with A:=A2,v:=v2}:CPl).foot F2 from fun g' hg' hq=>by
       rcases hC2.sub g' hq with h1|h1
       ·exact HRa1.out g' hg' h1
       ·have:=(HR1.out.lt g' hg').2;omega)
      have HK1:=qd k1;have HK4:=qd (k4.trans HPm.out);have HEa2:=qd (fun c (hc:EndAll H b2' (pend.drop (i+1)) c)=>HEa.out c (by rw[HDr.out];exact .cons hE hc));have HCo2:=qd (HCo1.out.trans hco2);clear hE hC2 hco2 k1 k2 k3 k4 k5 HC1 HR1 HRa1 HEn HIn2 HEa HPm HCo1;go_wp2;go_roundw
      case rel=>exact⟨i+1,A2,v2,F2,b2',x2',_,by omega,by go_num,HC2,HK1,HEa2,HK4,HCo2,HR2,HRa2⟩
      case measure=>simp[intOf];omega
     ·obtain rfl:i=pend.length:=by omega
      have hlt':¬(pend.length:Int)<(pend.length:Int):=by omega
      have hIn:=HIn.out;have hEa:=HEa.out;rw[List.drop_length]at hIn hEa;have HEx:=qd (show MtPost W0 E H C w0 G0 st id wr from⟨A',v',F',a',_,b4,x',u',⟨a1,ids1,a2,ids2,a3,e1,ids3,a4,HBg.out,HDb.out,HOw.out,HOt.out,by rw[←HPe.out];exact hEa a' (.nil a'),rfl⟩,hIn,HPm.out,HC.out,HCo.out⟩);clear hIn hEa;go_wp2;go_end0
      first|exact⟨rfl,HEx.out⟩|exact HEx.out
   |none=>
    subst hdv;obtain⟨c0,c1,c11,c12,c13,c14,c15⟩:=HC3.out.cells
    have hcv:copVal C.A st.a.cop= .pointer none:=by unfold copVal;rw[hcop];rfl
    have c13':w4.cell? ⟨C.mb,13,none⟩=some (.pointer none):=by rw[←hcv];exact c13
    have hd5:st.a.d<5:=dbl_lt HCs.out.2.2;have HHc:=qd hcop;obtain⟨Fs4,hF4,hp4⟩:=HC3.out.sch.pool;have HNw:=qd (copyist_New C.A.db C.A.eb st.a.d st.a.l hd5 w4 hp4.dir)
    have hn32:32∉st.ids++[id]:=fun hh=>by
     rcases List.mem_append.1 hh with h1|h1
     ·rcases(HCp.out.can_ 32).2 h1 with⟨M,h2,_⟩|⟨_,_,c,h2⟩
      ·have:=get_lt h2;have h3:=HBd.out.2.1;omega
      ·rw[hcop]at h2;cases h2
     ·exact h32 (List.mem_singleton.1 h1).symm
    have HN32:=qd hn32;have HD5:=qd hd5;clear c13 hcv hF4 hp4 hn32 hcop;unfold dirP copP at HNw;go_wp2_with fail;refine HNw.out.mono ?_;rintro x w5 ⟨cb,fb,fe,rfl,hC5,⟨z1,z2,z3⟩,hb5⟩;have HC5:=qd hC5;have HB5:=qd hb5;have hB:=(Met.blk HC3.out.sch.met).mod (Mod.of_below hb5 []) (by simp);have e13:w5.cell? ⟨C.mb,13,none⟩=some (copVal C.A st.a.cop):=hB.cell 13;have g13:w5.frozen? ⟨C.mb,13,none⟩=false:=hB.frozen 13;clear c0 c1 c11 c12 c13' c14 c15 hB hC5 hb5 HNw;go_wp2_with fail;refine(must_cop (some ⟨cb,0,none⟩) w5).mono ?_;rintro x w6 ⟨rfl,rfl⟩;obtain⟨F6,hC6⟩:=HC3.out.double HHc.out HC5.out z1 z2 z3 HB5.out HN32.out;go_upto_region 6 with fail;refine nameW (F:=fun v=>CoreF W0 E H {C with A:={C.A with cb:=cb,fb:=fb,fe:=fe},v:=C.v} w0 G0 v F6 {st with a:={st.a with Ns:=st.a.Ns.set id (N.start k),cop:=some (0,List.replicate (2^(st.a.d+1)) 0)},ids:=st.ids++[id],x:=st.x.add (cU 1) 1}) hC6 ?_;rintro w7 hC7;have HC7:=qd hC7;have k13:w7.cell? ⟨C.mb,13,none⟩=some (.pointer (some ⟨cb,0,none⟩)):=HC7.out.cells.2.2.2.2.1;have HAd:=qd (core_add HC7.out 32 145 ⟨cb,0,none⟩ (by unfold Adr.val Adr.jt Adr.ja;rw[if_pos rfl,if_pos rfl]) HN32.out (by omega) (by show(st.ids++[id]).length<40;rw[List.length_append,List.length_singleton];omega));unfold coreP at HAd;clear hC6 hC7 e13 g13 HC3 HC5 HB5 z1 z2 z3;go_wp2_with fail;refine HAd.out.mono ?_;rintro x w8 ⟨rfl,h8⟩;have HC8:=qd h8;clear h8 HAd HC7 k13
    obtain⟨a2,ids2,A1,v1,x2,b2,F1,V,ha2⟩:∃(a2:Pool) (ids2:List Nat) (A1:Adr) (v1:Value) (x2:Mtr) (b2:Int) (F1:List Nat) (V:World),a2={st.a with Ns:=st.a.Ns.set id (N.start k),cop:=some (0,List.replicate (2^(st.a.d+1)) 0)}∧ids2=st.ids++[id]++[32]∧A1={C.A with cb:=cb,fb:=fb,fe:=fe}∧v1=C.v∧x2=(st.x.add (cU 1) 1).add (cU 1) 1∧b2=st.b∧F1=F6∧V=w8:=⟨_,_,_,_,_,_,_,_,rfl,rfl,rfl,rfl,rfl,rfl,rfl,rfl⟩;obtain⟨g1,g2,g3,g4,g5,g6,g7,g8⟩:=ha2;obtain⟨a1,ids1,hg⟩:∃(a1:Pool) (ids1:List Nat),a1={st.a with Ns:=st.a.Ns.set id (N.start k)}∧ids1=st.ids++[id]:=⟨_,_,rfl,rfl⟩;obtain⟨g9,g10⟩:=hg
    have hdb:DblS (DblB st.a id) a1 ids1 a2 ids2:=by rw[g9,g10,g1,g2];exact .yes ⟨N,HN.out,HCs.out.2.2⟩ HHc.out HD5.out
    have HDb:=qd hdb;have HBg1:=qd (show BegS st.a st.ids id a1 ids1 from by rw[g9,g10];exact HBg.out);have HSv1:=qd (dbl_srv (show CSrv a1 ids1 id from by rw[g9,g10];exact HSv.out) (by rw[g9];simpa using HBd.out.2.1) hdb).1;have HPr:=qd (show a2.ents=st.a.ents from by rw[g1];exact HPr1.out);have HCo:=qd (show Cost st.x x2 (0+0) (1+1)from by rw[g5];exact(cost_U _ 1).trans (cost_U _ 1))
    have hi40:ids2.length≤40:=by rw[g2,List.length_append,List.length_append,List.length_singleton,List.length_singleton];omega
    have HC4:=qd (show CoreF W0 E H {C with A:=A1,v:=v1} w0 G0 V F1 {st with a:=a2,ids:=ids2,b:=b2,x:=x2} from by rw[g1,g2,g3,g4,g5,g6,g7,g8];exact HC8.out);rw[←g8];clear HC8 HBg HSv HPr1 g1 g2 g3 g4 g5 g6 g7 g8 g9 g10 hdb HCs HCp HBd HO HHc HD5 HN32;have HC:=HC4;have HBg:=HBg1;have HSv:=HSv1;clear HC4 HBg1 HSv1;go_upto_region 7 with fail;have HC9:=qd (HC.out.below (Below.refl V.heap.size V).drew);have e14:V.cell? ⟨C.mb,14,none⟩=some (.pointer (some ⟨C.sb,0,none⟩)):=HC.out.cells.2.2.2.2.2.1;have hbd:=HC9.out.bounds
    have HSe:=qd (sched_Serve HC9.out.hp ({C with A:=A1,v:=v1}:CPl).s F1 C.K HC9.out.kk rfl b2 ids2 a2 x2 id h1000 (fun _=>rfl) (fun j hj=>⟨(HSv.out.pre.can_ j).2 hj,by
     rcases(HSv.out.pre.can_ j).2 hj with⟨M,h1,_⟩|⟨_,h1,_⟩
     ·have:=get_lt h1;have h3:=hbd.2.1;simp only at h3;omega
     ·omega⟩) (World.drew V) HC9.out.sch)
    have HS2:=qd (show Calls Tryz.prog 110 #[.pointer (some ⟨C.sb,0,none⟩),.pointer (some ⟨C.mb,3,none⟩),.int .i64 (id:Int)] (World.drew V) _ from HSe.out);clear HSe HC hbd;go_upto_region 7 with fail;refine rT (fun(w':World)=>w'.cell? ⟨C.mb,14,none⟩=some (.pointer (some ⟨C.sb,0,none⟩))) [8] ?_;have hHeld:=e14;refine vW 0 rfl ?_;refine vW 1 rfl ?_;refine vW 2 rfl ?_;refine vT 3 rfl ?_;refine vW 4 rfl ?_;refine vW 5 rfl ?_;refine vW 6 rfl ?_;refine vW 7 rfl ?_;refine vW 10 rfl ?_;refine nT 8 rfl fun K hK=> ?_;go_simp;refine(HS2.out).mono ?_;rintro y V2 ⟨A9,c9,e1,ids3,a3,a4,F4,x4,b4,rfl,hrow,hown,hoth,hs,hco,hra⟩;obtain⟨hin4,hst4⟩:=srv_inv HC9.out.kk.1 HSv.out hown hoth;have HC4:=qd (HC9.out.served hs hst4.len hst4.cop);have HIn:=qd hin4;have HOw:=qd hown;have HOt:=qd hoth;have HPm:=qd (show a4.ents.Perm st.a.ents from by rw[←HPr.out];exact hst4.ents);have HCo4:=qd (HCo.out.trans hco);obtain⟨pend,hpend⟩:∃p,p=e1++doneL Pool.left a4 ids3:=⟨_,rfl⟩;rw[←hpend]at hrow hra⊢;have HPe:=qd hpend;have HRo:=qd hrow
    have HRa:=qd (show∀g,(Value.slice A9 pend.length c9).ownBlock=some g→g∉({C with A:=A1,v:=v1}:CPl).foot F4 from fun g hg hq=>by
     have hl:=(hrow.lt g hg);rcases mem_foot.1 hq with h1|h1|h1|h1
     ·exact hra g hg (by rw[h1];exact List.mem_cons_self ..)
     ·exact hra g hg (List.mem_cons_of_mem _ (List.mem_append_left _ h1))
     ·exact hra g hg (List.mem_cons_of_mem _ (List.mem_append_right _ h1))
     ·have:=(HC9.out.row.lt g h1).2;omega)
    obtain⟨bs,hbs⟩:∃bs,bs=(World.drew V).heap.size:=⟨_,rfl⟩;rw[←hbs]at HRo;clear hrow hown hoth hs hco hra hin4 hst4 hpend HS2 HC9 HSv HPr HCo hbs;go_wp2_with fail;refine kO hK ?_;clear hK K;refine vL 9 rfl ?_;refine doneT (by kernel_rfl) ?_ _
    have hpl:pend.length≤40:=by
     have h1:=oth_ids HOt.out;have h2:=congrArg List.length h1;rw[List.length_append]at h2;have h3:(doneL Pool.left a4 ids3).length≤ids3.length:=List.length_filter_le _ _;rw[HPe.out,List.length_append];have h4:=hi40;omega
    clear e14;go_wp2;go_loopw [9,67] (fun _ v67 wr=>∃(i:Nat) (A':Adr) (v':Value) (F':List Nat) (a':Pool) (x':Mtr) (u':Nat),i≤pend.length∧v67= .int .i64 (i:Int)∧Hid (CoreF W0 E H {C with A:=A',v:=v'} w0 G0 wr F' {st with a:=a',ids:=liveL Pool.left a4 ids3,b:=b4,x:=x'})∧Hid (CInv a' (liveL Pool.left a4 ids3) (pend.drop i))∧Hid (∀c,EndAll H a' (pend.drop i) c→EndAll H a4 pend c)∧Hid (a'.ents.Perm st.a.ents)∧Hid (Cost st.x x' 0 u')∧Hid (wr.ownsRow bs 3 1 (.slice A9 pend.length c9) pend.length (intVals pend))∧Hid (∀g,(Value.slice A9 pend.length c9).ownBlock=some g→g∉({C with A:=A',v:=v'}:CPl).foot F')) (fun _ v67 _=>pend.length-(intOf v67).toNat)
    case atStart=>exact⟨0,A1,v1,F4,a4,x4,_,by omega,rfl,HC4,qd (by rw[List.drop_zero,HPe.out];exact HIn.out),qd (fun _ h=>h),HPm,HCo4,HRo,HRa⟩
    case round=>
     clear HC4 HIn HPm HCo4 HRo HRa;obtain⟨i,A',v',F',a',x',u',hi,rfl,HC,HIn,HEa,HPm,HCo,HRo,HRa⟩:=hrel;by_cases hlt:i<pend.length
     ·have hlt':(i:Int)<(pend.length:Int):=by omega
      have hi0:(0:Int)≤(i:Int):=by omega
      have hi41:(i:Int)≤41:=by omega
      obtain⟨j,hj⟩:∃j,pend[i]?=some j:=⟨_,List.getElem?_eq_getElem hlt⟩;obtain⟨g,hA9,hge,hgl,hce,_⟩:=intVals_cell HRo.out hj;have HDr:=qd (drop_cons hj);have HU:=qd (core_Unit HC.out.again 1 (Nat.le_refl _));have HA9:=qd hA9;subst hA9;clear hj;go_wp2_with fail;refine HU.out.mono ?_;rintro y w1 ⟨rfl,h1⟩;have HR1:=qd (own_far HRo.out h1.mod (fun k hk=>HRa.out k hk));have HRa1:=qd (show∀g',(Value.slice (some ⟨g,0,none⟩) pend.length c9).ownBlock=some g'→g'∉({C with A:=A',v:=v'}:CPl).foot F' from HRa.out);have HC1:=qd (HC.out.chain h1);have HCo1:=qd (HCo.out.trans (cost_U _ 1))
      have hin:CInv a' (liveL Pool.left a4 ids3) (j::pend.drop (i+1)):=by rw[←HDr.out];exact HIn.out
      have hbd:=HC1.out.bounds;have HEn:=qd (core_end HC1.out.again j (pend.drop (i+1)) hin);have HIn2:=qd (fun(b:Pool) (hb:EndS H a' j b)=>endS_inv hin hb hbd.1 hbd.2.1 hbd.2.2.1);clear h1 hin HC HRo HRa HU HIn hce HCo hbd;unfold coreP at HEn;go_wp2_with fail;refine HEn.out.mono ?_;rintro y w2 ⟨rfl,A2,v2,F2,b2',x2',u2',hE,hC2,hco2⟩;obtain⟨k1,k2,k3,k4,k5⟩:=HIn2.out b2' hE;have HC2:=qd (HC1.out.chain hC2);have HR2:=qd (own_far HR1.out hC2.mod (fun k hk=>HRa1.out k hk))
      have HRa2:=qd (show∀g',(Value.slice (some ⟨g,0,none⟩) pend.length c9).ownBlock=some g'→g'∉({C with A:=A2,v:=v2}:CPl).foot F2 from fun g' hg' hq=>by
       rcases hC2.sub g' hq with h1|h1
       ·exact HRa1.out g' hg' h1
       ·have:=(HR1.out.lt g' hg').2;omega)
      have HK1:=qd k1;have HK4:=qd (k4.trans HPm.out);have HEa2:=qd (fun c (hc:EndAll H b2' (pend.drop (i+1)) c)=>HEa.out c (by rw[HDr.out];exact .cons hE hc));have HCo2:=qd (HCo1.out.trans hco2);clear hE hC2 hco2 k1 k2 k3 k4 k5 HC1 HR1 HRa1 HEn HIn2 HEa HPm HCo1;go_wp2;go_roundw
      case rel=>exact⟨i+1,A2,v2,F2,b2',x2',_,by omega,by go_num,HC2,HK1,HEa2,HK4,HCo2,HR2,HRa2⟩
      case measure=>simp[intOf];omega
     ·obtain rfl:i=pend.length:=by omega
      have hlt':¬(pend.length:Int)<(pend.length:Int):=by omega
      have hIn:=HIn.out;have hEa:=HEa.out;rw[List.drop_length]at hIn hEa;have HEx:=qd (show MtPost W0 E H C w0 G0 st id wr from⟨A',v',F',a',_,b4,x',u',⟨a1,ids1,a2,ids2,a3,e1,ids3,a4,HBg.out,HDb.out,HOw.out,HOt.out,by rw[←HPe.out];exact hEa a' (.nil a'),rfl⟩,hIn,HPm.out,HC.out,HCo.out⟩);clear hIn hEa;go_wp2;go_end0
      first|exact⟨rfl,HEx.out⟩|exact HEx.out
end Go.Proofs.YthfgacnlojmmfaaGreatDoor
