/- A scheduler's Serve by its contract. -/
import Derived.Test.YtkddpchpcepjgaaGreatDoorCoBV
namespace Go.Proofs.YtkddpchpcepjgaaGreatDoor
set_option maxRecDepth 100000
set_option maxHeartbeats 8000000
open Go.RowKit cu
theorem kB:type_of% @List.filter_append:=@List.filter_append
variable {c i id j : Nat} {e aL : List Nat}
def KR {α:Type}(Stp:α->Nat->α->Prop)(id:Nat):Nat->α->α->Prop
 |0,a,a'=>a=a'
 |n+1,a,a'=>∃b,KR Stp id n a b/\Stp b id a'
def wQ {α:Type}(left:α->Nat->Nat)(Stp:α->Nat->α->Prop)(ids:List Nat)(own n:Nat)(a a':α):Prop:=
 (own∉ids/\a'=a)\/(own∈ids/\∃m,KR Stp own m a a'/\m<=n/\(m=n\/left a' own=0))
def iw {α:Type}(left:α->Nat->Nat)(a:α)(ids:List Nat):List Nat:=ids.filter λid=>left a id==0
def iZ {α:Type}(left:α->Nat->Nat)(a:α)(ids:List Nat):List Nat:=ids.filter λid=>left a id !=0
theorem Hz {W0:World}{E:Nat->Addr}{P:MP}{α:Type}{jt:Nat->TypeId}{ja:Nat->Addr}{At:World->List Nat->α->Prop}{can:α->Nat->Prop}{left:α->Nat->Nat}{Stp:α->Nat->α->Prop}(HP:jk W0 E P jt ja At can left Stp):∀{n:Nat} {a a':α},KR Stp id n a a'->can a j->can a' j
 |0,_,_,h,hc=>h▸hc
 |_+1,_,_,⟨_,h1,h2⟩,hc=>HP.jL h2 (Hz HP h1 hc)
theorem Tm {W0:World}{E:Nat->Addr}{P:MP}{α:Type}{jt:Nat->TypeId}{ja:Nat->Addr}{At:World->List Nat->α->Prop}{can:α->Nat->Prop}{left:α->Nat->Nat}{Stp:α->Nat->α->Prop}(HP:jk W0 E P jt ja At can left Stp){ids:List Nat}{a a':α}(h:tY left Stp c ids a e aL a')(hc:can a j):can a' j:=by
 induction h with
 |nil=>exact hc
 |broke=>exact hc
 |ended _ _ ih=>exact ih hc
 |step _ hs _ ih=>exact ih (HP.jL hs hc)
theorem sM {α:Type}{left:α->Nat->Nat}{Stp:α->Nat->α->Prop}{ids:List Nat}{a a':α}(h:tY left Stp c ids a e aL a'):ids=e++aL:=by
 induction h with
 |nil=>rfl
 |broke=>rfl
 |ended _ _ ih=>rw[ih];rfl
 |step _ _ _ ih=>exact ih
theorem aaX {W0 w0:World}{E:Nat->Addr}{P:MP}{α:Type}{jt:Nat->TypeId}{ja:Nat->Addr}{At:World->List Nat->α->Prop}{can:α->Nat->Prop}{left:α->Nat->Nat}{Stp:α->Nat->α->Prop}(HP:jk W0 E P jt ja At can left Stp)(s:SP)(F0 F:List Nat)(b:Nat)(hb:b<=1000)(ids:List Nat)(a:α)(x:bS)(id:Nat)(hc:can a id)(w:World)(h:bH W0 E P At s w0 F0 w (b:Int) ids a F x):
  Calls Tryz.prog 173 #[fD s.sb,nX P,.iface (jt id) (.pointer (some (ja id)))] w λe w'=>(e= .returned (.bool true)/\∃a' F' x',1<=b/\Stp a id a'/\dU x x' 0 1/\bH W0 E P At s w0 F0 w' ((b-1:Nat):Int) ids a' F' x')\/(e= .returned (.bool false)/\(left a id=0\/b=0)/\bH W0 E P At s w0 F0 w' (b:Int) ids a F x):=by
 rcases kj (left a id)with h0|h1
 ·exact(step_done HP s F0 F b ids a x id hc h0 w h).mono λe w' ⟨h1,h2⟩=> .inr ⟨h1,.inl h0,h.below HP h2⟩
 ·rcases b with _|b
  ·exact(Vd HP s F0 F ids a x id hc h1 w h).mono λe w' ⟨h1,h2⟩=> .inr ⟨h1,.inr rfl,h.below HP h2⟩
  ·exact(P6 HP s F0 F b (by omega) ids a x id hc h1 w h).mono λe w' ⟨h1,a',F',x',h2,h3,h4,_⟩=> .inl ⟨h1,a',F',x',by omega,h2,h3,h4⟩
theorem MK {α:Type}{left:α->Nat->Nat}{a:α}{ids:List Nat}(h:ids[i]?=some id):iZ left a (ids.take (i+1))=iZ left a (ids.take i)++(if left a id=0 then []else [id])/\iw left a (ids.take (i+1))=iw left a (ids.take i)++(if left a id=0 then [id]else []):=by
 have ht:ids.take (i+1)=ids.take i++[id]:=by rw[J0,h];rfl
 unfold iZ iw;rw[ht,kB,kB]
 by_cases h0:left a id=0<;>simp[h0]
theorem drop_cons {ids:List Nat}(h:ids[i]?=some id):ids.drop i=id::ids.drop (i+1):=by
 obtain⟨hl,rfl⟩:=zz.1 h;exact ke hl
theorem ML {l r:List Nat}(h:id∉l):(l++id::r).erase id=l++r:=by
 rw[List.erase_append_right _ h,List.erase_cons_head]
section
variable {W0 w0 w w2 : World} {E : Nat -> Addr} {P : MP} {α : Type} {jt : Nat -> TypeId} {ja : Nat -> Addr} {At : World -> List Nat -> α -> Prop} {can : α -> Nat -> Prop} {left : α -> Nat -> Nat} {Stp : α -> Nat -> α -> Prop} {s : SP} {F0 F F2 : List Nat} {b b2 : Int} {ids aO : List Nat} {a a2 : α} {x x2 : bS}
theorem bH.again (h:bH W0 E P At s w0 F0 w b ids a F x):bH W0 E P At s w F w b ids a F x:=⟨h.aF,h.pool,h.met,h.env,h.apart,h.sJ,h.env.size,λ_ hq=> .inl hq,Mod.refl _ _⟩
theorem bH.chain (h:bH W0 E P At s w0 F0 w b ids a F x)(k:bH W0 E P At s w F w2 b2 aO a2 F2 x2):bH W0 E P At s w0 F0 w2 b2 aO a2 F2 x2:=
 ⟨k.aF,k.pool,k.met,k.env,k.apart,k.sJ,h.qN,λq hq=>(k.sub q hq).elim (h.sub q) (λhh=> .inr (qf h.size hh)),h.mod.trans k.mod (λ_ hq _=>hq) (λq hq hl=>by
  rcases zt.1 hq with h1|h1
  ·simp[h1]
  ·rcases Zs.1 h1 with h2|h2
   ·simp[h2]
   ·rcases h.sub q h2 with h3|h3
    ·simp[h3]
    ·omega)⟩
end
theorem JI {W0:World}{E:Nat->Addr}{P:MP}{α:Type}{jt:Nat->TypeId}{ja:Nat->Addr}{At:World->List Nat->α->Prop}{can:α->Nat->Prop}{left:α->Nat->Nat}{Stp:α->Nat->α->Prop}(HP:jk W0 E P jt ja At can left Stp)(s:SP)(F:List Nat)(K:Nat)(hK:1<=K/\K<=64)(hk:s.k=(K:Int))(b:Int)(ids:List Nat)(a:α)(x:bS)(own:Nat)(mH:own<=1000)(hin:own∉ids)(hval:∀id,s.val id= .iface (jt id) (.pointer (some (ja id))))(hcan:∀id∈ids,can a id/\id<=1000)(w:World)(h:bH W0 E P At s w F w b ids a F x):
  Calls Tryz.prog 131 #[fD s.sb,nX P,nI own] w λe w'=>∃A cc e1 bZ a1 a2 F' x' b',e= .returned (.slice A (e1++iw left a2 bZ).length cc)/\w'.ownsRow w.heap.size 3 1 (.slice A (e1++iw left a2 bZ).length cc) (e1++iw left a2 bZ).length (dK (e1++iw left a2 bZ))/\wQ left Stp ids own (8*K) a a1/\tY left Stp K ids a1 e1 bZ a2/\bH W0 E P At s w F w' b' (iZ left a2 bZ) a2 F' x'/\dU x x' 0 (9*K)/\oN P s F' (.slice A (e1++iw left a2 bZ).length cc):=by
 have hval:=qd hval;have hlen:=qd h.aF.many;have H0:=qd h;have Hw:=qd hcan;have nD:=qd hin;obtain⟨F0,MI⟩:∃F0,F0=F:=⟨_,rfl⟩
 have hk':1<=s.k/\s.k<=64:=by omega
 have Qa:0<=8*s.k/\8*s.k<=1000:=by omega
 have XR:8*s.k=((8*K:Nat):Int):=by rw[hk];omega
 have HK8:=qd XR;have JJ:=qd hk;have oZ:=qd (zf own mH);unfold fD nX;clear h hcan hin XR hk;rw[<-MI]at H0|-;clear MI;go_in;have HS:=H0;have jP:=qd (PU s.k 1 1 (by omega) w);unfold eX at jP;obtain⟨sp,hsb⟩:=HS.o.aF.blk;have k0:=aj.cell hsb 0;have k1:=aj.cell hsb 1;have k2:=aj.cell hsb 2;have k4:=aj.cell hsb 4;simp only[gl]at k0 k1 k2 k4;clear hsb;go_wp2_with fail;refine jP.o.mono ?_;rintro x w1 ⟨rfl,hb⟩;replace HS:=qd (HS.o.below HP hb);clear k0 k1 k2 k4 hb jP;have iq:=qd (Cu HP s F0 F0 b (8*s.k) Qa ids a x w1 HS.o);unfold fD at iq;go_wp2_with fail;refine iq.o.mono ?_;rintro z w2 ⟨rfl,hs⟩;clear HS iq;have HS:=qd (show bH W0 E P At s w F0 w2 ((8*K:Nat):Int) ids a F0 x from by rw[<-HK8.o];exact hs);clear hs H0;obtain⟨sp,hsb⟩:=HS.o.aF.blk;have k0:=aj.cell hsb 0;have k1:=aj.cell hsb 1;have k2:=aj.cell hsb 2;have k4:=aj.cell hsb 4;simp only[gl]at k0 k1 k2 k4;clear hsb;have oG:=qd HS.o.aF.map;have HV:=qd (show jX s.val ids (own:Int)=none from PY nD.o);go_wp2_with (at_lookup;refine Dm rfl _ _ rfl rfl oG.o _ rfl oZ.o ?_;rw[HV.o]);clear k0 k1 k2 k4 oG;have aaY:=qd (show wQ left Stp ids own (8*K) a a from .inl ⟨nD.o,rfl⟩);have JK:=Hw.o;have H8:=qd (dU.refl x);have Cv:=qd JK;clear JK;have jP:=qd (JA s.k 1 1 (by omega) w2);unfold eX at jP;obtain⟨sp,hsb⟩:=HS.o.aF.blk;have k0:=aj.cell hsb 0;have k1:=aj.cell hsb 1;have k2:=aj.cell hsb 2;have k4:=aj.cell hsb 4;simp only[gl]at k0 k1 k2 k4;clear hsb;go_wp2_with fail;refine jP.o.mono ?_;rintro x w1 ⟨rfl,hb⟩
 replace HS:=qd (HS.o.below HP hb);clear k0 k1 k2 k4 hb jP;have iq:=qd (Cu HP s F0 F0 ((8*K:Nat):Int) s.k (by omega) ids a x w1 HS.o);unfold fD at iq;go_wp2_with fail;refine iq.o.mono ?_;rintro x w2 ⟨rfl,hs⟩;clear HS iq;have HS:=qd (show bH W0 E P At s w F0 w2 ((K:Nat):Int) ids a F0 x from by rw[<-JJ.o];exact hs);clear hs;have Gr:=qd (Et HP s F0 K (by omega) ids a x hval.o Cv.o w2 HS.o.again);unfold fD nX at Gr;go_wp2_with fail;refine Gr.o.mono ?_;rintro x w3 ⟨A9,c9,e1,aO,a2,F2,x2,b2,rfl,Eu,hoth,hs3,Ev,Qb⟩;have kS:=qd (HS.o.chain hs3);have H9:=qd kS.o.size;have Qc:=qd (H8.o.trans Ev);have aaZ:=qd hoth;have Ew:=qd (rG Eu HS.o.size);have Qd:=qd Qb;have Vj:=qd (λi (hi:i∈aO)=>And.intro (Tm HP hoth (Cv.o i (by rw[sM hoth];simp[hi])).1) (Cv.o i (by rw[sM hoth];simp[hi])).2)
 have hel:e1.length+aO.length=ids.length:=by rw[sM hoth,ZD]
 clear HS Eu hoth hs3 Ev Qb Gr;have lV:=qd (ME s.sb s.qb s.rb s.jb s.k b2 s.val aO w3 kS.o.aF);unfold fD at lV;go_wp2_with fail;refine lV.o.mono ?_;rintro x w4 ⟨AI,cI,rfl,Qe,hb4⟩;have JL:∀g,(Value.slice AI aO.length cI).ownBlock=some g->w3.heap.size<=g:=λg hg=>(Qe.lt g hg).1
 have XT:∀g,(Value.slice A9 e1.length c9).ownBlock=some g->(Value.slice AI aO.length cI).ownBlock≠some g:=λg hg he=>by
  have h1:=(Ew.o.lt g hg).2;have h2:=JL g he;omega
 have Qf:oN P s F2 (.slice AI aO.length cI):=λg hg hq=>by
  have h1:=kS.o.fC HP g hq;have h2:=JL g hg;omega
 replace kS:=qd (kS.o.below HP hb4);replace Ew:=qB hb4 Ew;have HRI:=qd Qf;have uf:=qd (rG Qe (show w.heap.size<=w3.heap.size from H9.o));have XU:=qd XT;have HBI:=qd JL;have hz4:=hb4.size;have agq:=kS.o.size;have hzb:w.heap.size<=w3.heap.size:=H9.o;clear Qe hb4 Qf XT JL lV;go_wp2;clear H9;go_loopw [9,11,46] (λv9 _ v46 wr=>∃(i:Nat) (D:List Nat),i<=aO.length/\Hqq (D=e1++iw left a2 (aO.take i))/\v46=nI i/\Hqq (bH W0 E P At s w F0 wr b2 (iZ left a2 (aO.take i)++aO.drop i) a2 F2 x2)/\wr.ownsRow w.heap.size 3 1 v9 D.length (dK D)/\Hqq (wr.ownsRow w.heap.size 3 1 (.slice AI aO.length cI) aO.length (dK aO))/\Hqq (oN P s F2 v9)/\Hqq (∀g,v9.ownBlock=some g->(Value.slice AI aO.length cI).ownBlock≠some g)/\D.length<=e1.length+i) (λ_ _ v46 _=>aO.length-(intOf v46).toNat)
 case atStart=>exact⟨0,e1,by omega,qd (by simp[iw]),rfl,by simpa[iZ]using kS,Ew.o,uf,Qd,XU,by omega⟩
 case round=>
  clear Ew kS uf Qd XU;obtain⟨i,D,hi,HD,rfl,HS,hO,uf,Ey,Qg,hdl⟩:=hrel;obtain⟨A,vc,rfl⟩:=bq hO;have HO:=qd hO;clear hO;by_cases hlt:i<aO.length
  ·have hlt':(i:Int)<(aO.length:Int):=by omega
   have hi0:(0:Int)<=(i:Int):=by omega
   have aen:(i:Int)<=41:=by have:=hlen.o;omega
   obtain⟨id,hid⟩:∃id,aO[i]?=some id:=⟨_,zg hlt⟩;obtain⟨g,XV,hge,hgl,hce,_⟩:=nS uf.o hid;have nY:=Vj.o id (zE hid);have hl:=HP.xY HS.o.pool nY.1;have HJ:=qd (HP.P5 nY.1);obtain⟨Fl,zi⟩:∃Fl,Fl=jW (jt id):=⟨_,rfl⟩;rw[<-zi]at hl;have MJ:=qd zi.symm;have HL:=qd hl;have oZ:=qd (zf id nY.2);have oG:=qd HS.o.aF.map
   have hmem:id∈iZ left a2 (aO.take i)++aO.drop i:=by rw[drop_cons hid];simp
   have HV:=qd (show jX s.val (iZ left a2 (aO.take i)++aO.drop i) (id:Int)=some (.iface (jt id) (.pointer (some (ja id))))from by rw[ze hmem,hval.o]);have hle:=HP.le HS.o.pool nY.1;have eO:=qd (MK (left:=left) (a:=a2) hid);have Gs:=qd (drop_cons hid);have O5:=qd HS.o.aF.nd;have JH:=qd nY;have KS:=qd hmem;obtain⟨lf,hlf⟩:∃lf,lf=left a2 id:=⟨_,rfl⟩;rw[<-hlf]at HL hle;have jQ:=qd hlf;have HAI:=qd XV;obtain⟨Gp,Gq⟩:=sK HS.o.aF;clear hl zi nY hlf hid hmem;subst XV;go_wp2_with (at_lookup;refine xW rfl _ _ rfl rfl oG.o _ rfl oZ.o _ HV.o ?_);rw[sH HJ.o,x8,sI HJ.o];rw[show jW (jt id)=Fl from MJ.o];rw[Kb];refine HL.o.mono ?_;rintro x w5 ⟨rfl,hb5⟩;replace HS:=qd (HS.o.below HP hb5);replace HO:=qB hb5 HO;replace uf:=qB hb5 uf;clear HL Gp Gq hb5 MJ oG hce;rcases kj lf with h0|h1
   ·subst h0;have P9:=qd (show left a2 id=0 from jQ.o.symm);have HR:=qd (Ct HP s F0 F2 b2 _ a2 x2 id KS.o JH.o.2 w5 HS.o);unfold fD at HR;simp only[Int.ofNat_zero]at*;go_wp2_with fail;refine HR.o.mono ?_;rintro x w6 ⟨rfl,hs6,nP⟩;have XW:=kG HO.o nP (λg hg hq=>Ey.o g hg (by simp[hq]));have Ia:=kG uf.o nP (λg hg hq=>HRI.o g hg (by simp[hq]))
    have Qh:bH W0 E P At s w F0 w6 b2 (iZ left a2 (aO.take (i+1))++aO.drop (i+1)) a2 F2 x2:=by
     have hnd:=O5.o;rw[Gs.o]at hs6 hnd;rw[ML (λhh=>(yq.1 hnd).2.2 id hh id (by simp) rfl)]at hs6;rw[eO.o.1,if_pos P9.o,yy];exact hs6
    have HS6:=qd Qh;have aa0:=qd Ia;have hz6:=hs6.size;have Qi:∀g',(Value.slice (some ⟨g,0,none⟩) aO.length cI).ownBlock=some g'->g'<w6.heap.size:=λg' hg'=>(Ia.lt g' hg').2;have aa1:=qd Qi;clear HS HO HR uf hs6 Qh nP Ia Qi
    have ael:D.length+1<=100:=by have:=hlen.o;omega
    go_wp2_with (at_builtin;refine gD rfl rfl za XW rfl rfl rfl rfl rfl (by omega) (by omega) ?_;intro v4 w7 dM iP;obtain⟨A4,c4,rfl⟩:=bq dM);obtain⟨hs7,aa2⟩:=HS6.o.app HP XW (zb _) Ey.o iP
    have aa3:=aa0.o.kept iP.lH (.inr (by
     intro he;have hee:∃g',(Value.slice (some ⟨g,0,none⟩) aO.length cI).ownBlock=some g':=⟨g,rfl⟩;obtain⟨g',hg'⟩:=hee
     exact Qg.o g' (by rw[<-he];exact hg') hg'))
    have aa4:∀g',(Value.slice A4 (D.length+1) c4).ownBlock=some g'->(Value.slice (some ⟨g,0,none⟩) aO.length cI).ownBlock≠some g':=λg' hg' he=>by
     rcases iP.at_ with h1|⟨g2,h1,h2⟩
     ·exact Qg.o g' (h1▸hg') he
     ·have:=aa1.o g' he;rw[h1]at hg'
      injection hg' with hg'
      omega
    go_roundw
    case rel=>exact⟨i+1,D++[id],by omega,qd (by rw[eO.o.2,if_pos P9.o,HD.o,qe]),by go_num,qd hs7,by simpa[dK]using dM,qd aa3,qd (by simpa using aa2),qd (by simpa using aa4),by simp;omega⟩
    case measure=>simp[intOf];omega
   ·have hl1:¬(lf:Int)<1:=by omega
    have hne:¬left a2 id=0:=by rw[<-jQ.o];omega
    have jr:=qd hne;have hs5:=HS.o;rw[Gs.o]at hs5;have OW:=qd (show bH W0 E P At s w F0 w5 b2 (iZ left a2 (aO.take (i+1))++aO.drop (i+1)) a2 F2 x2 from by rw[eO.o.1,if_neg hne,qe];exact hs5);clear hs5 hne HS;go_wp2;go_roundw
    case rel=>exact⟨i+1,D,by omega,qd (by rw[eO.o.2,if_neg jr.o,yy];exact HD.o),by go_num,OW,HO.o,uf,Ey,Qg,by omega⟩
    case measure=>simp[intOf];omega
  ·obtain rfl:i=aO.length:=by omega
   have hlt':¬(aO.length:Int)<(aO.length:Int):=by omega
   have ht:aO.take aO.length=aO:=yr;have hd:aO.drop aO.length=[]:=List.drop_length;rw[ht,hd,yy]at HS;rw[ht]at HD;clear ht hd;rw[HD.o]at HO Ey|-;go_wp2;go_ret;have Eu:=HO.o;have XY:=Ey.o;rw[ZD]at Eu XY;exact⟨A,vc,e1,aO,a,a2,rfl,Eu,aaY.o,aaZ.o,F2,x2,⟨b2,HS.o⟩,Qc.o.mono (by omega) (by omega),XY⟩
theorem KT {W0:World}{E:Nat->Addr}{P:MP}{α:Type}{jt:Nat->TypeId}{ja:Nat->Addr}{At:World->List Nat->α->Prop}{can:α->Nat->Prop}{left:α->Nat->Nat}{Stp:α->Nat->α->Prop}(HP:jk W0 E P jt ja At can left Stp)(s:SP)(F:List Nat)(K:Nat)(hK:1<=K/\K<=64)(hk:s.k=(K:Int))(b:Int)(ids:List Nat)(a:α)(x:bS)(own:Nat)(mH:own<=1000)(hin:own∈ids)(hval:∀id,s.val id= .iface (jt id) (.pointer (some (ja id))))(hcan:∀id∈ids,can a id/\id<=1000)(w:World)(h:bH W0 E P At s w F w b ids a F x):
  Calls Tryz.prog 131 #[fD s.sb,nX P,nI own] w λe w'=>∃A cc e1 bZ a1 a2 F' x' b',e= .returned (.slice A (e1++iw left a2 bZ).length cc)/\w'.ownsRow w.heap.size 3 1 (.slice A (e1++iw left a2 bZ).length cc) (e1++iw left a2 bZ).length (dK (e1++iw left a2 bZ))/\wQ left Stp ids own (8*K) a a1/\tY left Stp K ids a1 e1 bZ a2/\bH W0 E P At s w F w' b' (iZ left a2 bZ) a2 F' x'/\dU x x' 0 (9*K)/\oN P s F' (.slice A (e1++iw left a2 bZ).length cc):=by
 have hval:=qd hval;have hlen:=qd h.aF.many;have H0:=qd h;have Hw:=qd hcan;have nD:=qd hin;obtain⟨F0,MI⟩:∃F0,F0=F:=⟨_,rfl⟩
 have hk':1<=s.k/\s.k<=64:=by omega
 have Qa:0<=8*s.k/\8*s.k<=1000:=by omega
 have XR:8*s.k=((8*K:Nat):Int):=by rw[hk];omega
 have HK8:=qd XR;have JJ:=qd hk;have oZ:=qd (zf own mH);unfold fD nX;clear h hcan hin XR hk;rw[<-MI]at H0|-;clear MI;go_in;have HS:=H0;have jP:=qd (PU s.k 1 1 (by omega) w);unfold eX at jP;obtain⟨sp,hsb⟩:=HS.o.aF.blk;have k0:=aj.cell hsb 0;have k1:=aj.cell hsb 1;have k2:=aj.cell hsb 2;have k4:=aj.cell hsb 4;simp only[gl]at k0 k1 k2 k4;clear hsb;go_wp2_with fail;refine jP.o.mono ?_;rintro x w1 ⟨rfl,hb⟩;replace HS:=qd (HS.o.below HP hb);clear k0 k1 k2 k4 hb jP;have iq:=qd (Cu HP s F0 F0 b (8*s.k) Qa ids a x w1 HS.o);unfold fD at iq;go_wp2_with fail;refine iq.o.mono ?_;rintro z w2 ⟨rfl,hs⟩;clear HS iq;have HS:=qd (show bH W0 E P At s w F0 w2 ((8*K:Nat):Int) ids a F0 x from by rw[<-HK8.o];exact hs);clear hs H0;obtain⟨sp,hsb⟩:=HS.o.aF.blk;have k0:=aj.cell hsb 0;have k1:=aj.cell hsb 1;have k2:=aj.cell hsb 2;have k4:=aj.cell hsb 4;simp only[gl]at k0 k1 k2 k4;clear hsb;have oG:=qd HS.o.aF.map;have HV:=qd (show jX s.val ids (own:Int)=some (.iface (jt own) (.pointer (some (ja own))))from by rw[ze nD.o,hval.o]);go_wp2_with (at_lookup;refine Dm rfl _ _ rfl rfl oG.o _ rfl oZ.o ?_;rw[HV.o]);clear k0 k1 k2 k4 oG HV
 have h8K:8*K<=512:=by omega
 go_loopw [] (λwr=>∃(n c:Nat) (a1:α) (F1:List Nat) (x1:bS),Hqq (n+c=8*K)/\Hqq (bH W0 E P At s w F0 wr (c:Int) ids a1 F1 x1)/\Hqq (KR Stp own n a a1)/\Hqq (dU x x1 0 n)) (λwr=>Fy s.sb s.qb wr)
 case atStart=>exact⟨0,8*K,a,F0,x,qd (by omega),HS,qd rfl,qd (dU.refl x)⟩
 case round=>
  clear HS;obtain⟨n,c,a1,F1,x1,HN,HS,iV,H8⟩:=hrel
  have hc8:c<=512:=by have:=HN.o;omega
  have hn8:n<=8*K:=by have:=HN.o;omega
  have JH:=qd (Hz HP iV.o (Hw.o own nD.o).1);have XZ:=qd HS.o.aF.meas;have Vk:=qd (aaX HP s F0 F1 c (by omega) ids a1 x1 own JH.o wr HS.o);unfold fD nX at Vk;go_wp2_with fail;refine Vk.o.mono ?_;rintro e V (⟨rfl,a3,F3,x3,hc1,hst,hco,hs⟩|⟨rfl,hor,hs⟩)
  ·have kS:=qd hs;have agr:=qd (show KR Stp own (n+1) a a3 from⟨a1,iV.o,hst⟩);have ags:=qd (H8.o.trans hco);clear HS hs hst hco Vk;go_wp2;go_roundw
   case rel=>exact⟨n+1,c-1,a3,F3,x3,qd (by have:=HN.o;omega),kS,agr,qd (ags.o.mono (by omega) (by omega))⟩
   case measure=>rw[XZ.o,kS.o.aF.meas];omega
  ·replace HS:=qd hs;have aaY:=qd (show wQ left Stp ids own (8*K) a a1 from .inr ⟨nD.o,n,iV.o,hn8,by have:=HN.o;rcases hor with h1|h1;exact .inr h1;left;omega⟩);have JK:∀id∈ids,can a1 id/\id<=1000:=λid hid=>⟨Hz HP iV.o (Hw.o id hid).1,(Hw.o id hid).2⟩;clear hs hor Vk iV XZ HN JH;have Cv:=qd JK;clear JK;have jP:=qd (JA s.k 1 1 (by omega) V);unfold eX at jP;obtain⟨sp,hsb⟩:=HS.o.aF.blk;have k0:=aj.cell hsb 0;have k1:=aj.cell hsb 1;have k2:=aj.cell hsb 2;have k4:=aj.cell hsb 4;simp only[gl]at k0 k1 k2 k4;clear hsb;go_wp2_with fail;refine jP.o.mono ?_;rintro x w1 ⟨rfl,hb⟩;replace HS:=qd (HS.o.below HP hb);clear k0 k1 k2 k4 hb jP;have iq:=qd (Cu HP s F0 F1 (c:Int) s.k (by omega) ids a1 x1 w1 HS.o);unfold fD at iq;go_wp2_with fail;refine iq.o.mono ?_;rintro x w2 ⟨rfl,hs⟩;clear HS iq;have HS:=qd (show bH W0 E P At s w F0 w2 ((K:Nat):Int) ids a1 F1 x1 from by rw[<-JJ.o];exact hs);clear hs;have Gr:=qd (Et HP s F1 K (by omega) ids a1 x1 hval.o Cv.o w2 HS.o.again);unfold fD nX at Gr;go_wp2_with fail;refine Gr.o.mono ?_;rintro x w3 ⟨A9,c9,e1,aO,a2,F2,x2,b2,rfl,Eu,hoth,hs3,Ev,Qb⟩;have kS:=qd (HS.o.chain hs3);have H9:=qd kS.o.size;have Qc:=qd (H8.o.trans Ev);have aaZ:=qd hoth;have Ew:=qd (rG Eu HS.o.size);have Qd:=qd Qb;have Vj:=qd (λi (hi:i∈aO)=>And.intro (Tm HP hoth (Cv.o i (by rw[sM hoth];simp[hi])).1) (Cv.o i (by rw[sM hoth];simp[hi])).2)
   have hel:e1.length+aO.length=ids.length:=by rw[sM hoth,ZD]
   clear HS Eu hoth hs3 Ev Qb Gr;have lV:=qd (ME s.sb s.qb s.rb s.jb s.k b2 s.val aO w3 kS.o.aF);unfold fD at lV;go_wp2_with fail;refine lV.o.mono ?_;rintro x w4 ⟨AI,cI,rfl,Qe,hb4⟩;have JL:∀g,(Value.slice AI aO.length cI).ownBlock=some g->w3.heap.size<=g:=λg hg=>(Qe.lt g hg).1
   have XT:∀g,(Value.slice A9 e1.length c9).ownBlock=some g->(Value.slice AI aO.length cI).ownBlock≠some g:=λg hg he=>by
    have h1:=(Ew.o.lt g hg).2;have h2:=JL g he;omega
   have Qf:oN P s F2 (.slice AI aO.length cI):=λg hg hq=>by
    have h1:=kS.o.fC HP g hq;have h2:=JL g hg;omega
   replace kS:=qd (kS.o.below HP hb4);replace Ew:=qB hb4 Ew;have HRI:=qd Qf;have uf:=qd (rG Qe (show w.heap.size<=w3.heap.size from H9.o));have XU:=qd XT;have HBI:=qd JL;have hz4:=hb4.size;have agq:=kS.o.size;have hzb:w.heap.size<=w3.heap.size:=H9.o;clear Qe hb4 Qf XT JL lV;go_wp2;clear H9;go_loopw [9,11,46] (λv9 _ v46 wr=>∃(i:Nat) (D:List Nat),i<=aO.length/\Hqq (D=e1++iw left a2 (aO.take i))/\v46=nI i/\Hqq (bH W0 E P At s w F0 wr b2 (iZ left a2 (aO.take i)++aO.drop i) a2 F2 x2)/\wr.ownsRow w.heap.size 3 1 v9 D.length (dK D)/\Hqq (wr.ownsRow w.heap.size 3 1 (.slice AI aO.length cI) aO.length (dK aO))/\Hqq (oN P s F2 v9)/\Hqq (∀g,v9.ownBlock=some g->(Value.slice AI aO.length cI).ownBlock≠some g)/\D.length<=e1.length+i) (λ_ _ v46 _=>aO.length-(intOf v46).toNat)
   case atStart=>exact⟨0,e1,by omega,qd (by simp[iw]),rfl,by simpa[iZ]using kS,Ew.o,uf,Qd,XU,by omega⟩
   case round=>
    clear Ew kS uf Qd XU;obtain⟨i,D,hi,HD,rfl,HS,hO,uf,Ey,Qg,hdl⟩:=hrel;obtain⟨A,vc,rfl⟩:=bq hO;have HO:=qd hO;clear hO;by_cases hlt:i<aO.length
    ·have hlt':(i:Int)<(aO.length:Int):=by omega
     have hi0:(0:Int)<=(i:Int):=by omega
     have aen:(i:Int)<=41:=by have:=hlen.o;omega
     obtain⟨id,hid⟩:∃id,aO[i]?=some id:=⟨_,zg hlt⟩;obtain⟨g,XV,hge,hgl,hce,_⟩:=nS uf.o hid;have nY:=Vj.o id (zE hid);have hl:=HP.xY HS.o.pool nY.1;have HJ:=qd (HP.P5 nY.1);obtain⟨Fl,zi⟩:∃Fl,Fl=jW (jt id):=⟨_,rfl⟩;rw[<-zi]at hl;have MJ:=qd zi.symm;have HL:=qd hl;have oZ:=qd (zf id nY.2);have oG:=qd HS.o.aF.map
     have hmem:id∈iZ left a2 (aO.take i)++aO.drop i:=by rw[drop_cons hid];simp
     have HV:=qd (show jX s.val (iZ left a2 (aO.take i)++aO.drop i) (id:Int)=some (.iface (jt id) (.pointer (some (ja id))))from by rw[ze hmem,hval.o]);have hle:=HP.le HS.o.pool nY.1;have eO:=qd (MK (left:=left) (a:=a2) hid);have Gs:=qd (drop_cons hid);have O5:=qd HS.o.aF.nd;have JH:=qd nY;have KS:=qd hmem;obtain⟨lf,hlf⟩:∃lf,lf=left a2 id:=⟨_,rfl⟩;rw[<-hlf]at HL hle;have jQ:=qd hlf;have HAI:=qd XV;obtain⟨Gp,Gq⟩:=sK HS.o.aF;clear hl zi nY hlf hid hmem;subst XV;go_wp2_with (at_lookup;refine xW rfl _ _ rfl rfl oG.o _ rfl oZ.o _ HV.o ?_);rw[sH HJ.o,x8,sI HJ.o];rw[show jW (jt id)=Fl from MJ.o];rw[Kb];refine HL.o.mono ?_;rintro x w5 ⟨rfl,hb5⟩;replace HS:=qd (HS.o.below HP hb5);replace HO:=qB hb5 HO;replace uf:=qB hb5 uf;clear HL Gp Gq hb5 MJ oG hce;rcases kj lf with h0|h1
     ·subst h0;have P9:=qd (show left a2 id=0 from jQ.o.symm);have HR:=qd (Ct HP s F0 F2 b2 _ a2 x2 id KS.o JH.o.2 w5 HS.o);unfold fD at HR;simp only[Int.ofNat_zero]at*;go_wp2_with fail;refine HR.o.mono ?_;rintro x w6 ⟨rfl,hs6,nP⟩;have XW:=kG HO.o nP (λg hg hq=>Ey.o g hg (by simp[hq]));have Ia:=kG uf.o nP (λg hg hq=>HRI.o g hg (by simp[hq]))
      have Qh:bH W0 E P At s w F0 w6 b2 (iZ left a2 (aO.take (i+1))++aO.drop (i+1)) a2 F2 x2:=by
       have hnd:=O5.o;rw[Gs.o]at hs6 hnd;rw[ML (λhh=>(yq.1 hnd).2.2 id hh id (by simp) rfl)]at hs6;rw[eO.o.1,if_pos P9.o,yy];exact hs6
      have HS6:=qd Qh;have aa0:=qd Ia;have hz6:=hs6.size;have Qi:∀g',(Value.slice (some ⟨g,0,none⟩) aO.length cI).ownBlock=some g'->g'<w6.heap.size:=λg' hg'=>(Ia.lt g' hg').2;have aa1:=qd Qi;clear HS HO HR uf hs6 Qh nP Ia Qi
      have ael:D.length+1<=100:=by have:=hlen.o;omega
      go_wp2_with (at_builtin;refine gD rfl rfl za XW rfl rfl rfl rfl rfl (by omega) (by omega) ?_;intro v4 w7 dM iP;obtain⟨A4,c4,rfl⟩:=bq dM);obtain⟨hs7,aa2⟩:=HS6.o.app HP XW (zb _) Ey.o iP
      have aa3:=aa0.o.kept iP.lH (.inr (by
       intro he;have hee:∃g',(Value.slice (some ⟨g,0,none⟩) aO.length cI).ownBlock=some g':=⟨g,rfl⟩;obtain⟨g',hg'⟩:=hee
       exact Qg.o g' (by rw[<-he];exact hg') hg'))
      have aa4:∀g',(Value.slice A4 (D.length+1) c4).ownBlock=some g'->(Value.slice (some ⟨g,0,none⟩) aO.length cI).ownBlock≠some g':=λg' hg' he=>by
       rcases iP.at_ with h1|⟨g2,h1,h2⟩
       ·exact Qg.o g' (h1▸hg') he
       ·have:=aa1.o g' he;rw[h1]at hg'
        injection hg' with hg'
        omega
      go_roundw
      case rel=>exact⟨i+1,D++[id],by omega,qd (by rw[eO.o.2,if_pos P9.o,HD.o,qe]),by go_num,qd hs7,by simpa[dK]using dM,qd aa3,qd (by simpa using aa2),qd (by simpa using aa4),by simp;omega⟩
      case measure=>simp[intOf];omega
     ·have hl1:¬(lf:Int)<1:=by omega
      have hne:¬left a2 id=0:=by rw[<-jQ.o];omega
      have jr:=qd hne;have hs5:=HS.o;rw[Gs.o]at hs5;have OW:=qd (show bH W0 E P At s w F0 w5 b2 (iZ left a2 (aO.take (i+1))++aO.drop (i+1)) a2 F2 x2 from by rw[eO.o.1,if_neg hne,qe];exact hs5);clear hs5 hne HS;go_wp2;go_roundw
      case rel=>exact⟨i+1,D,by omega,qd (by rw[eO.o.2,if_neg jr.o,yy];exact HD.o),by go_num,OW,HO.o,uf,Ey,Qg,by omega⟩
      case measure=>simp[intOf];omega
    ·obtain rfl:i=aO.length:=by omega
     have hlt':¬(aO.length:Int)<(aO.length:Int):=by omega
     have ht:aO.take aO.length=aO:=yr;have hd:aO.drop aO.length=[]:=List.drop_length;rw[ht,hd,yy]at HS;rw[ht]at HD;clear ht hd;rw[HD.o]at HO Ey|-;go_wp2;go_ret;have Eu:=HO.o;have XY:=Ey.o;rw[ZD]at Eu XY;exact⟨A,vc,e1,aO,a1,a2,rfl,Eu,aaY.o,aaZ.o,F2,x2,⟨b2,HS.o⟩,Qc.o.mono (by omega) (by omega),XY⟩
