/- A scheduler's Serve by its contract. -/
import Derived.Test.YtnfjjbpmhcbelaaGreatDoorCoBV
import Derived.Test.YtnfjjbpmhcbelaaGreatDoorSqM
import Derived.Test.YtnfjjbpmhcbelaaGreatDoorGaugeA
namespace Go.Proofs.YtnfjjbpmhcbelaaGreatDoor
set_option maxRecDepth 100000
set_option maxHeartbeats 8000000
open Go.RowKit dI
variable {c i id j : Nat} {e aK : List Nat}
def JK {α:Type}(Stp:α→Nat→α→Prop)(id:Nat):Nat→α→α→Prop
 |0,a,a'=>a=a'
 |n+1,a,a'=>∃b,JK Stp id n a b∧Stp b id a'
def vS {α:Type}(left:α→Nat→Nat)(Stp:α→Nat→α→Prop)(ids:List Nat)(own n:Nat)(a a':α):Prop:=
 (own∉ids∧a'=a)∨(own∈ids∧∃m,JK Stp own m a a'∧m≤n∧(m=n∨left a' own=0))
def gq {α:Type}(left:α→Nat→Nat)(a:α)(ids:List Nat):List Nat:=ids.filter fun id=>left a id==0
def iC {α:Type}(left:α→Nat→Nat)(a:α)(ids:List Nat):List Nat:=ids.filter fun id=>left a id !=0
theorem Gv {W0:World}{E:Nat→Addr}{P:MP}{α:Type}{jt:Nat→TypeId}{ja:Nat→Addr}{At:World→List Nat→α→Prop}{can:α→Nat→Prop}{left:α→Nat→Nat}{Stp:α→Nat→α→Prop}(HP:iO W0 E P jt ja At can left Stp):∀{n:Nat} {a a':α},JK Stp id n a a'→can a j→can a' j
 |0,_,_,h,hc=>h▸hc
 |_+1,_,_,⟨_,h1,h2⟩,hc=>HP.jg h2 (Gv HP h1 hc)
theorem Rh {W0:World}{E:Nat→Addr}{P:MP}{α:Type}{jt:Nat→TypeId}{ja:Nat→Addr}{At:World→List Nat→α→Prop}{can:α→Nat→Prop}{left:α→Nat→Nat}{Stp:α→Nat→α→Prop}(HP:iO W0 E P jt ja At can left Stp){ids:List Nat}{a a':α}(h:tF left Stp c ids a e aK a')(hc:can a j):can a' j:=by
 induction h with
 |nil=>exact hc
 |broke=>exact hc
 |ended _ _ ih=>exact ih hc
 |step _ hs _ ih=>exact ih (HP.jg hs hc)
theorem sj {α:Type}{left:α→Nat→Nat}{Stp:α→Nat→α→Prop}{ids:List Nat}{a a':α}(h:tF left Stp c ids a e aK a'):ids=e++aK:=by
 induction h with
 |nil=>rfl
 |broke=>rfl
 |ended _ _ ih=>rw[ih];rfl
 |step _ _ _ ih=>exact ih
theorem Zn {W0 w0:World}{E:Nat→Addr}{P:MP}{α:Type}{jt:Nat→TypeId}{ja:Nat→Addr}{At:World→List Nat→α→Prop}{can:α→Nat→Prop}{left:α→Nat→Nat}{Stp:α→Nat→α→Prop}(HP:iO W0 E P jt ja At can left Stp)(s:SP)(F0 F:List Nat)(b:Nat)(hb:b≤1000)(ids:List Nat)(a:α)(x:bL)(id:Nat)(hc:can a id)(w:World)(h:bD W0 E P At s w0 F0 w (b:Int) ids a F x):
  Calls Tryz.prog 170 #[eG s.sb,mP P,.iface (jt id) (.pointer (some (ja id)))] w fun e w'=>(e= .returned (.bool true)∧∃a' F' x',1≤b∧Stp a id a'∧dL x x' 0 1∧bD W0 E P At s w0 F0 w' ((b-1:Nat):Int) ids a' F' x')∨(e= .returned (.bool false)∧(left a id=0∨b=0)∧bD W0 E P At s w0 F0 w' (b:Int) ids a F x):=by
 rcases Nat.eq_zero_or_pos (left a id)with h0|h1
 ·exact(step_done HP s F0 F b ids a x id hc h0 w h).mono fun e w' ⟨h1,h2⟩=> .inr ⟨h1,.inl h0,h.below HP h2⟩
 ·rcases b with _|b
  ·exact(Tq HP s F0 F ids a x id hc h1 w h).mono fun e w' ⟨h1,h2⟩=> .inr ⟨h1,.inr rfl,h.below HP h2⟩
  ·exact(OD HP s F0 F b (by omega) ids a x id hc h1 w h).mono fun e w' ⟨h1,a',F',x',h2,h3,h4,_⟩=> .inl ⟨h1,a',F',x',by omega,h2,h3,h4⟩
theorem Lg {α:Type}{left:α→Nat→Nat}{a:α}{ids:List Nat}(h:ids[i]?=some id):iC left a (ids.take (i+1))=iC left a (ids.take i)++(if left a id=0 then []else [id])∧gq left a (ids.take (i+1))=gq left a (ids.take i)++(if left a id=0 then [id]else []):=by
 have ht:ids.take (i+1)=ids.take i++[id]:=by rw[List.take_add_one,h];rfl
 unfold iC gq;rw[ht,List.filter_append,List.filter_append]
 by_cases h0:left a id=0<;>simp[h0]
theorem drop_cons {ids:List Nat}(h:ids[i]?=some id):ids.drop i=id::ids.drop (i+1):=by
 obtain⟨hl,rfl⟩:=List.getElem?_eq_some_iff.1 h;exact List.drop_eq_getElem_cons hl
theorem Lh {l r:List Nat}(h:id∉l):(l++id::r).erase id=l++r:=by
 rw[List.erase_append_right _ h,List.erase_cons_head]
section
variable {W0 w0 w w2 : World} {E : Nat → Addr} {P : MP} {α : Type} {jt : Nat → TypeId} {ja : Nat → Addr} {At : World → List Nat → α → Prop} {can : α → Nat → Prop} {left : α → Nat → Nat} {Stp : α → Nat → α → Prop} {s : SP} {F0 F F2 : List Nat} {b b2 : Int} {ids aO : List Nat} {a a2 : α} {x x2 : bL}
theorem bD.again (h:bD W0 E P At s w0 F0 w b ids a F x):bD W0 E P At s w F w b ids a F x:=⟨h.aD,h.pool,h.met,h.env,h.apart,h.rZ,h.env.size,fun _ hq=> .inl hq,Mod.refl _ _⟩
theorem bD.chain (h:bD W0 E P At s w0 F0 w b ids a F x)(k:bD W0 E P At s w F w2 b2 aO a2 F2 x2):bD W0 E P At s w0 F0 w2 b2 aO a2 F2 x2:=
 ⟨k.aD,k.pool,k.met,k.env,k.apart,k.rZ,h.qH,fun q hq=>(k.sub q hq).elim (h.sub q) (fun hh=> .inr (Nat.le_trans h.size hh)),h.mod.trans k.mod (fun _ hq _=>hq) (fun q hq hl=>by
  rcases List.mem_cons.1 hq with h1|h1
  ·simp[h1]
  ·rcases List.mem_append.1 h1 with h2|h2
   ·simp[h2]
   ·rcases h.sub q h2 with h3|h3
    ·simp[h3]
    ·omega)⟩
end
theorem IQ {W0:World}{E:Nat→Addr}{P:MP}{α:Type}{jt:Nat→TypeId}{ja:Nat→Addr}{At:World→List Nat→α→Prop}{can:α→Nat→Prop}{left:α→Nat→Nat}{Stp:α→Nat→α→Prop}(HP:iO W0 E P jt ja At can left Stp)(s:SP)(F:List Nat)(K:Nat)(hK:1≤K∧K≤64)(hk:s.k=(K:Int))(b:Int)(ids:List Nat)(a:α)(x:bL)(own:Nat)(lD:own≤1000)(hin:own∉ids)(hval:∀id,s.val id= .iface (jt id) (.pointer (some (ja id))))(hcan:∀id∈ids,can a id∧id≤1000)(w:World)(h:bD W0 E P At s w F w b ids a F x):
  Calls Tryz.prog 116 #[eG s.sb,mP P,nI own] w fun e w'=>∃A cc e1 bM a1 a2 F' x' b',e= .returned (.slice A (e1++gq left a2 bM).length cc)∧w'.ownsRow w.heap.size 3 1 (.slice A (e1++gq left a2 bM).length cc) (e1++gq left a2 bM).length (dD (e1++gq left a2 bM))∧vS left Stp ids own (8*K) a a1∧tF left Stp K ids a1 e1 bM a2∧bD W0 E P At s w F w' b' (iC left a2 bM) a2 F' x'∧dL x x' 0 (9*K)∧nL P s F' (.slice A (e1++gq left a2 bM).length cc):=by
 have hval:=qd hval;have hlen:=qd h.aD.many;have H0:=qd h;have Gt:=qd hcan;have Aw:=qd hin;obtain⟨F0,Lf⟩:∃F0,F0=F:=⟨_,rfl⟩
 have hk':1≤s.k∧s.k≤64:=by omega
 have hk8:0≤8*s.k∧8*s.k≤1000:=by omega
 have Wn:8*s.k=((8*K:Nat):Int):=by rw[hk];omega
 have HK8:=qd Wn;have IU:=qd hk;have Fz:=qd (yw own lD);unfold eG mP;clear h hcan hin Wn hk;rw[←Lf]at H0⊢;clear Lf;go_in;have HS:=H0;have jl:=qd (Ow s.k 1 1 (by omega) w);unfold gL at jl;obtain⟨sp,hsb⟩:=HS.out.aD.blk;have k0:=aj.cell hsb 0;have k1:=aj.cell hsb 1;have k2:=aj.cell hsb 2;have k4:=aj.cell hsb 4;simp only[gl]at k0 k1 k2 k4;clear hsb;go_wp2_with fail;refine jl.out.mono ?_;rintro x w1 ⟨rfl,hb⟩;replace HS:=qd (HS.out.below HP hb);clear k0 k1 k2 k4 hb jl;have fV:=qd (BH HP s F0 F0 b (8*s.k) hk8 ids a x w1 HS.out);unfold eG at fV;go_wp2_with fail;refine fV.out.mono ?_;rintro z w2 ⟨rfl,hs⟩;clear HS fV;have HS:=qd (show bD W0 E P At s w F0 w2 ((8*K:Nat):Int) ids a F0 x from by rw[←HK8.out];exact hs);clear hs H0;obtain⟨sp,hsb⟩:=HS.out.aD.blk;have k0:=aj.cell hsb 0;have k1:=aj.cell hsb 1;have k2:=aj.cell hsb 2;have k4:=aj.cell hsb 4;simp only[gl]at k0 k1 k2 k4;clear hsb;have mq:=qd HS.out.aD.map;have HV:=qd (show jA s.val ids (own:Int)=none from OA Aw.out);go_wp2_with (at_lookup;refine Cq rfl _ _ rfl rfl mq.out _ rfl Fz.out ?_;rw[HV.out]);clear k0 k1 k2 k4 mq;have Zo:=qd (show vS left Stp ids own (8*K) a a from .inl ⟨Aw.out,rfl⟩);have IV:=Gt.out;have Gw:=qd (dL.refl x);have BI:=qd IV;clear IV;have jl:=qd (IB s.k 1 1 (by omega) w2);unfold gL at jl;obtain⟨sp,hsb⟩:=HS.out.aD.blk;have k0:=aj.cell hsb 0;have k1:=aj.cell hsb 1;have k2:=aj.cell hsb 2;have k4:=aj.cell hsb 4;simp only[gl]at k0 k1 k2 k4;clear hsb;go_wp2_with fail;refine jl.out.mono ?_;rintro x w1 ⟨rfl,hb⟩
 replace HS:=qd (HS.out.below HP hb);clear k0 k1 k2 k4 hb jl;have fV:=qd (BH HP s F0 F0 ((8*K:Nat):Int) s.k (by omega) ids a x w1 HS.out);unfold eG at fV;go_wp2_with fail;refine fV.out.mono ?_;rintro x w2 ⟨rfl,hs⟩;clear HS fV;have HS:=qd (show bD W0 E P At s w F0 w2 ((K:Nat):Int) ids a F0 x from by rw[←IU.out];exact hs);clear hs;have FB:=qd (DT HP s F0 K (by omega) ids a x hval.out BI.out w2 HS.out.again);unfold eG mP at FB;go_wp2_with fail;refine FB.out.mono ?_;rintro x w3 ⟨A9,c9,e1,aO,a2,F2,x2,b2,rfl,DU,hoth,hs3,DV,OI⟩;have gU:=qd (HS.out.chain hs3);have Gx:=qd gU.out.size;have OJ:=qd (Gw.out.trans DV);have Zp:=qd hoth;have DW:=qd (qR DU HS.out.size);have OL:=qd OI;have TB:=qd (fun i (hi:i∈aO)=>And.intro (Rh HP hoth (BI.out i (by rw[sj hoth];simp[hi])).1) (BI.out i (by rw[sj hoth];simp[hi])).2)
 have hel:e1.length+aO.length=ids.length:=by rw[sj hoth,List.length_append]
 clear HS DU hoth hs3 DV OI FB;have kQ:=qd (Lb s.sb s.qb s.rb s.jb s.k b2 s.val aO w3 gU.out.aD);unfold eG at kQ;go_wp2_with fail;refine kQ.out.mono ?_;rintro x w4 ⟨AI,cI,rfl,OM,hb4⟩;have IW:∀g,(Value.slice AI aO.length cI).ownBlock=some g→w3.heap.size≤g:=fun g hg=>(OM.lt g hg).1
 have kZ:∀g,(Value.slice A9 e1.length c9).ownBlock=some g→(Value.slice AI aO.length cI).ownBlock≠some g:=fun g hg he=>by
  have h1:=(DW.out.lt g hg).2;have h2:=IW g he;omega
 have OO:nL P s F2 (.slice AI aO.length cI):=fun g hg hq=>by
  have h1:=gU.out.gI HP g hq;have h2:=IW g hg;omega
 replace gU:=qd (gU.out.below HP hb4);replace DW:=qB hb4 DW;have HRI:=qd OO;have tJ:=qd (qR OM (show w.heap.size≤w3.heap.size from Gx.out));have Wo:=qd kZ;have HBI:=qd IW;have hz4:=hb4.size;have aek:=gU.out.size;have hzb:w.heap.size≤w3.heap.size:=Gx.out;clear OM hb4 OO kZ IW kQ;go_wp2;clear Gx;go_loopw [9,11,46] (fun v9 _ v46 wr=>∃(i:Nat) (D:List Nat),i≤aO.length∧Hid (D=e1++gq left a2 (aO.take i))∧v46=nI i∧Hid (bD W0 E P At s w F0 wr b2 (iC left a2 (aO.take i)++aO.drop i) a2 F2 x2)∧wr.ownsRow w.heap.size 3 1 v9 D.length (dD D)∧Hid (wr.ownsRow w.heap.size 3 1 (.slice AI aO.length cI) aO.length (dD aO))∧Hid (nL P s F2 v9)∧Hid (∀g,v9.ownBlock=some g→(Value.slice AI aO.length cI).ownBlock≠some g)∧D.length≤e1.length+i) (fun _ _ v46 _=>aO.length-(intOf v46).toNat)
 case atStart=>exact⟨0,e1,by omega,qd (by simp[gq]),rfl,by simpa[iC]using gU,DW.out,tJ,OL,Wo,by omega⟩
 case round=>
  clear DW gU tJ OL Wo;obtain⟨i,D,hi,HD,rfl,HS,hO,tJ,DX,OP,hdl⟩:=hrel;obtain⟨A,vc,rfl⟩:=bA hO;have HO:=qd hO;clear hO;by_cases hlt:i<aO.length
  ·have hlt':(i:Int)<(aO.length:Int):=by omega
   have hi0:(0:Int)≤(i:Int):=by omega
   have acC:(i:Int)≤41:=by have:=hlen.out;omega
   obtain⟨id,hid⟩:∃id,aO[i]?=some id:=⟨_,List.getElem?_eq_getElem hlt⟩;obtain⟨g,Wp,hge,hgl,hce,_⟩:=mM tJ.out hid;have mQ:=TB.out id (List.mem_of_getElem? hid);have hl:=HP.wS HS.out.pool mQ.1;have HJ:=qd (HP.OC mQ.1);obtain⟨Fl,yA⟩:∃Fl,Fl=jy (jt id):=⟨_,rfl⟩;rw[←yA]at hl;have Fy:=qd yA.symm;have HL:=qd hl;have Fz:=qd (yw id mQ.2);have mq:=qd HS.out.aD.map
   have hmem:id∈iC left a2 (aO.take i)++aO.drop i:=by rw[drop_cons hid];simp
   have HV:=qd (show jA s.val (iC left a2 (aO.take i)++aO.drop i) (id:Int)=some (.iface (jt id) (.pointer (some (ja id))))from by rw[yu hmem,hval.out]);have hle:=HP.le HS.out.pool mQ.1;have dZ:=qd (Lg (left:=left) (a:=a2) hid);have Li:=qd (drop_cons hid);have Dt:=qd HS.out.aD.nd;have IL:=qd mQ;have JL:=qd hmem;obtain⟨lf,hlf⟩:∃lf,lf=left a2 id:=⟨_,rfl⟩;rw[←hlf]at HL hle;have jm:=qd hlf;have HAI:=qd Wp;obtain⟨Fw,Fx⟩:=r9 HS.out.aD;clear hl yA mQ hlf hid hmem;subst Wp;go_wp2_with (at_lookup;refine xq rfl _ _ rfl rfl mq.out _ rfl Fz.out _ HV.out ?_);rw[rX HJ.out,Result.andThen_ok,rY HJ.out];rw[show jy (jt id)=Fl from Fy.out];rw[Oper.upon_enter];refine HL.out.mono ?_;rintro x w5 ⟨rfl,hb5⟩;replace HS:=qd (HS.out.below HP hb5);replace HO:=qB hb5 HO;replace tJ:=qB hb5 tJ;clear HL Fw Fx hb5 Fy mq hce;rcases Nat.eq_zero_or_pos lf with h0|h1
   ·subst h0;have OH:=qd (show left a2 id=0 from jm.out.symm);have HR:=qd (BG HP s F0 F2 b2 _ a2 x2 id JL.out IL.out.2 w5 HS.out);unfold eG at HR;simp only[Int.ofNat_zero]at*;go_wp2_with fail;refine HR.out.mono ?_;rintro x w6 ⟨rfl,hs6,oC⟩;have Wq:=jJ HO.out oC (fun g hg hq=>DX.out g hg (by simp[hq]));have Gy:=jJ tJ.out oC (fun g hg hq=>HRI.out g hg (by simp[hq]))
    have OQ:bD W0 E P At s w F0 w6 b2 (iC left a2 (aO.take (i+1))++aO.drop (i+1)) a2 F2 x2:=by
     have hnd:=Dt.out;rw[Li.out]at hs6 hnd;rw[Lh (fun hh=>(List.nodup_append.1 hnd).2.2 id hh id (by simp) rfl)]at hs6;rw[dZ.out.1,if_pos OH.out,List.append_nil];exact hs6
    have HS6:=qd OQ;have Zq:=qd Gy;have hz6:=hs6.size;have OT:∀g',(Value.slice (some ⟨g,0,none⟩) aO.length cI).ownBlock=some g'→g'<w6.heap.size:=fun g' hg'=>(Gy.lt g' hg').2;have Zr:=qd OT;clear HS HO HR tJ hs6 OQ oC Gy OT
    have acA:D.length+1≤100:=by have:=hlen.out;omega
    go_wp2_with (at_builtin;refine iK rfl rfl yt Wq rfl rfl rfl rfl rfl (by omega) (by omega) ?_;intro v4 w7 dG ig;obtain⟨A4,c4,rfl⟩:=bA dG);obtain⟨hs7,Zt⟩:=HS6.out.app HP Wq (Nat.le_refl _) DX.out ig
    have Zu:=Zq.out.kept ig.kr (.inr (by
     intro he;have hee:∃g',(Value.slice (some ⟨g,0,none⟩) aO.length cI).ownBlock=some g':=⟨g,rfl⟩;obtain⟨g',hg'⟩:=hee
     exact OP.out g' (by rw[←he];exact hg') hg'))
    have Zv:∀g',(Value.slice A4 (D.length+1) c4).ownBlock=some g'→(Value.slice (some ⟨g,0,none⟩) aO.length cI).ownBlock≠some g':=fun g' hg' he=>by
     rcases ig.at_ with h1|⟨g2,h1,h2⟩
     ·exact OP.out g' (h1▸hg') he
     ·have:=Zr.out g' he;rw[h1]at hg'
      injection hg' with hg'
      omega
    go_roundw
    case rel=>exact⟨i+1,D++[id],by omega,qd (by rw[dZ.out.2,if_pos OH.out,HD.out,List.append_assoc]),by go_num,qd hs7,by simpa[dD]using dG,qd Zu,qd (by simpa using Zt),qd (by simpa using Zv),by simp;omega⟩
    case measure=>simp[intOf];omega
   ·have hl1:¬(lf:Int)<1:=by omega
    have hne:¬left a2 id=0:=by rw[←jm.out];omega
    have eH:=qd hne;have hs5:=HS.out;rw[Li.out]at hs5;have Ve:=qd (show bD W0 E P At s w F0 w5 b2 (iC left a2 (aO.take (i+1))++aO.drop (i+1)) a2 F2 x2 from by rw[dZ.out.1,if_neg hne,List.append_assoc];exact hs5);clear hs5 hne HS;go_wp2;go_roundw
    case rel=>exact⟨i+1,D,by omega,qd (by rw[dZ.out.2,if_neg eH.out,List.append_nil];exact HD.out),by go_num,Ve,HO.out,tJ,DX,OP,by omega⟩
    case measure=>simp[intOf];omega
  ·obtain rfl:i=aO.length:=by omega
   have hlt':¬(aO.length:Int)<(aO.length:Int):=by omega
   have ht:aO.take aO.length=aO:=List.take_length;have hd:aO.drop aO.length=[]:=List.drop_length;rw[ht,hd,List.append_nil]at HS;rw[ht]at HD;clear ht hd;rw[HD.out]at HO DX⊢;go_wp2;go_ret;have DU:=HO.out;have Ws:=DX.out;rw[List.length_append]at DU Ws;exact⟨A,vc,e1,aO,a,a2,rfl,DU,Zo.out,Zp.out,F2,x2,⟨b2,HS.out⟩,OJ.out.mono (by omega) (by omega),Ws⟩
theorem JM {W0:World}{E:Nat→Addr}{P:MP}{α:Type}{jt:Nat→TypeId}{ja:Nat→Addr}{At:World→List Nat→α→Prop}{can:α→Nat→Prop}{left:α→Nat→Nat}{Stp:α→Nat→α→Prop}(HP:iO W0 E P jt ja At can left Stp)(s:SP)(F:List Nat)(K:Nat)(hK:1≤K∧K≤64)(hk:s.k=(K:Int))(b:Int)(ids:List Nat)(a:α)(x:bL)(own:Nat)(lD:own≤1000)(hin:own∈ids)(hval:∀id,s.val id= .iface (jt id) (.pointer (some (ja id))))(hcan:∀id∈ids,can a id∧id≤1000)(w:World)(h:bD W0 E P At s w F w b ids a F x):
  Calls Tryz.prog 116 #[eG s.sb,mP P,nI own] w fun e w'=>∃A cc e1 bM a1 a2 F' x' b',e= .returned (.slice A (e1++gq left a2 bM).length cc)∧w'.ownsRow w.heap.size 3 1 (.slice A (e1++gq left a2 bM).length cc) (e1++gq left a2 bM).length (dD (e1++gq left a2 bM))∧vS left Stp ids own (8*K) a a1∧tF left Stp K ids a1 e1 bM a2∧bD W0 E P At s w F w' b' (iC left a2 bM) a2 F' x'∧dL x x' 0 (9*K)∧nL P s F' (.slice A (e1++gq left a2 bM).length cc):=by
 have hval:=qd hval;have hlen:=qd h.aD.many;have H0:=qd h;have Gt:=qd hcan;have Aw:=qd hin;obtain⟨F0,Lf⟩:∃F0,F0=F:=⟨_,rfl⟩
 have hk':1≤s.k∧s.k≤64:=by omega
 have hk8:0≤8*s.k∧8*s.k≤1000:=by omega
 have Wn:8*s.k=((8*K:Nat):Int):=by rw[hk];omega
 have HK8:=qd Wn;have IU:=qd hk;have Fz:=qd (yw own lD);unfold eG mP;clear h hcan hin Wn hk;rw[←Lf]at H0⊢;clear Lf;go_in;have HS:=H0;have jl:=qd (Ow s.k 1 1 (by omega) w);unfold gL at jl;obtain⟨sp,hsb⟩:=HS.out.aD.blk;have k0:=aj.cell hsb 0;have k1:=aj.cell hsb 1;have k2:=aj.cell hsb 2;have k4:=aj.cell hsb 4;simp only[gl]at k0 k1 k2 k4;clear hsb;go_wp2_with fail;refine jl.out.mono ?_;rintro x w1 ⟨rfl,hb⟩;replace HS:=qd (HS.out.below HP hb);clear k0 k1 k2 k4 hb jl;have fV:=qd (BH HP s F0 F0 b (8*s.k) hk8 ids a x w1 HS.out);unfold eG at fV;go_wp2_with fail;refine fV.out.mono ?_;rintro z w2 ⟨rfl,hs⟩;clear HS fV;have HS:=qd (show bD W0 E P At s w F0 w2 ((8*K:Nat):Int) ids a F0 x from by rw[←HK8.out];exact hs);clear hs H0;obtain⟨sp,hsb⟩:=HS.out.aD.blk;have k0:=aj.cell hsb 0;have k1:=aj.cell hsb 1;have k2:=aj.cell hsb 2;have k4:=aj.cell hsb 4;simp only[gl]at k0 k1 k2 k4;clear hsb;have mq:=qd HS.out.aD.map;have HV:=qd (show jA s.val ids (own:Int)=some (.iface (jt own) (.pointer (some (ja own))))from by rw[yu Aw.out,hval.out]);go_wp2_with (at_lookup;refine Cq rfl _ _ rfl rfl mq.out _ rfl Fz.out ?_;rw[HV.out]);clear k0 k1 k2 k4 mq HV
 have h8K:8*K≤512:=by omega
 go_loopw [] (fun wr=>∃(n c:Nat) (a1:α) (F1:List Nat) (x1:bL),Hid (n+c=8*K)∧Hid (bD W0 E P At s w F0 wr (c:Int) ids a1 F1 x1)∧Hid (JK Stp own n a a1)∧Hid (dL x x1 0 n)) (fun wr=>Eu s.sb s.qb wr)
 case atStart=>exact⟨0,8*K,a,F0,x,qd (by omega),HS,qd rfl,qd (dL.refl x)⟩
 case round=>
  clear HS;obtain⟨n,c,a1,F1,x1,HN,HS,lC,Gw⟩:=hrel
  have hc8:c≤512:=by have:=HN.out;omega
  have hn8:n≤8*K:=by have:=HN.out;omega
  have IL:=qd (Gv HP lC.out (Gt.out own Aw.out).1);have Cj:=qd HS.out.aD.meas;have TD:=qd (Zn HP s F0 F1 c (by omega) ids a1 x1 own IL.out wr HS.out);unfold eG mP at TD;go_wp2_with fail;refine TD.out.mono ?_;rintro e V (⟨rfl,a3,F3,x3,hc1,hst,hco,hs⟩|⟨rfl,hor,hs⟩)
  ·have gU:=qd hs;have ael:=qd (show JK Stp own (n+1) a a3 from⟨a1,lC.out,hst⟩);have aem:=qd (Gw.out.trans hco);clear HS hs hst hco TD;go_wp2;go_roundw
   case rel=>exact⟨n+1,c-1,a3,F3,x3,qd (by have:=HN.out;omega),gU,ael,qd (aem.out.mono (by omega) (by omega))⟩
   case measure=>rw[Cj.out,gU.out.aD.meas];omega
  ·replace HS:=qd hs;have Zo:=qd (show vS left Stp ids own (8*K) a a1 from .inr ⟨Aw.out,n,lC.out,hn8,by have:=HN.out;rcases hor with h1|h1;exact .inr h1;left;omega⟩);have IV:∀id∈ids,can a1 id∧id≤1000:=fun id hid=>⟨Gv HP lC.out (Gt.out id hid).1,(Gt.out id hid).2⟩;clear hs hor TD lC Cj HN IL;have BI:=qd IV;clear IV;have jl:=qd (IB s.k 1 1 (by omega) V);unfold gL at jl;obtain⟨sp,hsb⟩:=HS.out.aD.blk;have k0:=aj.cell hsb 0;have k1:=aj.cell hsb 1;have k2:=aj.cell hsb 2;have k4:=aj.cell hsb 4;simp only[gl]at k0 k1 k2 k4;clear hsb;go_wp2_with fail;refine jl.out.mono ?_;rintro x w1 ⟨rfl,hb⟩;replace HS:=qd (HS.out.below HP hb);clear k0 k1 k2 k4 hb jl;have fV:=qd (BH HP s F0 F1 (c:Int) s.k (by omega) ids a1 x1 w1 HS.out);unfold eG at fV;go_wp2_with fail;refine fV.out.mono ?_;rintro x w2 ⟨rfl,hs⟩;clear HS fV;have HS:=qd (show bD W0 E P At s w F0 w2 ((K:Nat):Int) ids a1 F1 x1 from by rw[←IU.out];exact hs);clear hs;have FB:=qd (DT HP s F1 K (by omega) ids a1 x1 hval.out BI.out w2 HS.out.again);unfold eG mP at FB;go_wp2_with fail;refine FB.out.mono ?_;rintro x w3 ⟨A9,c9,e1,aO,a2,F2,x2,b2,rfl,DU,hoth,hs3,DV,OI⟩;have gU:=qd (HS.out.chain hs3);have Gx:=qd gU.out.size;have OJ:=qd (Gw.out.trans DV);have Zp:=qd hoth;have DW:=qd (qR DU HS.out.size);have OL:=qd OI;have TB:=qd (fun i (hi:i∈aO)=>And.intro (Rh HP hoth (BI.out i (by rw[sj hoth];simp[hi])).1) (BI.out i (by rw[sj hoth];simp[hi])).2)
   have hel:e1.length+aO.length=ids.length:=by rw[sj hoth,List.length_append]
   clear HS DU hoth hs3 DV OI FB;have kQ:=qd (Lb s.sb s.qb s.rb s.jb s.k b2 s.val aO w3 gU.out.aD);unfold eG at kQ;go_wp2_with fail;refine kQ.out.mono ?_;rintro x w4 ⟨AI,cI,rfl,OM,hb4⟩;have IW:∀g,(Value.slice AI aO.length cI).ownBlock=some g→w3.heap.size≤g:=fun g hg=>(OM.lt g hg).1
   have kZ:∀g,(Value.slice A9 e1.length c9).ownBlock=some g→(Value.slice AI aO.length cI).ownBlock≠some g:=fun g hg he=>by
    have h1:=(DW.out.lt g hg).2;have h2:=IW g he;omega
   have OO:nL P s F2 (.slice AI aO.length cI):=fun g hg hq=>by
    have h1:=gU.out.gI HP g hq;have h2:=IW g hg;omega
   replace gU:=qd (gU.out.below HP hb4);replace DW:=qB hb4 DW;have HRI:=qd OO;have tJ:=qd (qR OM (show w.heap.size≤w3.heap.size from Gx.out));have Wo:=qd kZ;have HBI:=qd IW;have hz4:=hb4.size;have aek:=gU.out.size;have hzb:w.heap.size≤w3.heap.size:=Gx.out;clear OM hb4 OO kZ IW kQ;go_wp2;clear Gx;go_loopw [9,11,46] (fun v9 _ v46 wr=>∃(i:Nat) (D:List Nat),i≤aO.length∧Hid (D=e1++gq left a2 (aO.take i))∧v46=nI i∧Hid (bD W0 E P At s w F0 wr b2 (iC left a2 (aO.take i)++aO.drop i) a2 F2 x2)∧wr.ownsRow w.heap.size 3 1 v9 D.length (dD D)∧Hid (wr.ownsRow w.heap.size 3 1 (.slice AI aO.length cI) aO.length (dD aO))∧Hid (nL P s F2 v9)∧Hid (∀g,v9.ownBlock=some g→(Value.slice AI aO.length cI).ownBlock≠some g)∧D.length≤e1.length+i) (fun _ _ v46 _=>aO.length-(intOf v46).toNat)
   case atStart=>exact⟨0,e1,by omega,qd (by simp[gq]),rfl,by simpa[iC]using gU,DW.out,tJ,OL,Wo,by omega⟩
   case round=>
    clear DW gU tJ OL Wo;obtain⟨i,D,hi,HD,rfl,HS,hO,tJ,DX,OP,hdl⟩:=hrel;obtain⟨A,vc,rfl⟩:=bA hO;have HO:=qd hO;clear hO;by_cases hlt:i<aO.length
    ·have hlt':(i:Int)<(aO.length:Int):=by omega
     have hi0:(0:Int)≤(i:Int):=by omega
     have acC:(i:Int)≤41:=by have:=hlen.out;omega
     obtain⟨id,hid⟩:∃id,aO[i]?=some id:=⟨_,List.getElem?_eq_getElem hlt⟩;obtain⟨g,Wp,hge,hgl,hce,_⟩:=mM tJ.out hid;have mQ:=TB.out id (List.mem_of_getElem? hid);have hl:=HP.wS HS.out.pool mQ.1;have HJ:=qd (HP.OC mQ.1);obtain⟨Fl,yA⟩:∃Fl,Fl=jy (jt id):=⟨_,rfl⟩;rw[←yA]at hl;have Fy:=qd yA.symm;have HL:=qd hl;have Fz:=qd (yw id mQ.2);have mq:=qd HS.out.aD.map
     have hmem:id∈iC left a2 (aO.take i)++aO.drop i:=by rw[drop_cons hid];simp
     have HV:=qd (show jA s.val (iC left a2 (aO.take i)++aO.drop i) (id:Int)=some (.iface (jt id) (.pointer (some (ja id))))from by rw[yu hmem,hval.out]);have hle:=HP.le HS.out.pool mQ.1;have dZ:=qd (Lg (left:=left) (a:=a2) hid);have Li:=qd (drop_cons hid);have Dt:=qd HS.out.aD.nd;have IL:=qd mQ;have JL:=qd hmem;obtain⟨lf,hlf⟩:∃lf,lf=left a2 id:=⟨_,rfl⟩;rw[←hlf]at HL hle;have jm:=qd hlf;have HAI:=qd Wp;obtain⟨Fw,Fx⟩:=r9 HS.out.aD;clear hl yA mQ hlf hid hmem;subst Wp;go_wp2_with (at_lookup;refine xq rfl _ _ rfl rfl mq.out _ rfl Fz.out _ HV.out ?_);rw[rX HJ.out,Result.andThen_ok,rY HJ.out];rw[show jy (jt id)=Fl from Fy.out];rw[Oper.upon_enter];refine HL.out.mono ?_;rintro x w5 ⟨rfl,hb5⟩;replace HS:=qd (HS.out.below HP hb5);replace HO:=qB hb5 HO;replace tJ:=qB hb5 tJ;clear HL Fw Fx hb5 Fy mq hce;rcases Nat.eq_zero_or_pos lf with h0|h1
     ·subst h0;have OH:=qd (show left a2 id=0 from jm.out.symm);have HR:=qd (BG HP s F0 F2 b2 _ a2 x2 id JL.out IL.out.2 w5 HS.out);unfold eG at HR;simp only[Int.ofNat_zero]at*;go_wp2_with fail;refine HR.out.mono ?_;rintro x w6 ⟨rfl,hs6,oC⟩;have Wq:=jJ HO.out oC (fun g hg hq=>DX.out g hg (by simp[hq]));have Gy:=jJ tJ.out oC (fun g hg hq=>HRI.out g hg (by simp[hq]))
      have OQ:bD W0 E P At s w F0 w6 b2 (iC left a2 (aO.take (i+1))++aO.drop (i+1)) a2 F2 x2:=by
       have hnd:=Dt.out;rw[Li.out]at hs6 hnd;rw[Lh (fun hh=>(List.nodup_append.1 hnd).2.2 id hh id (by simp) rfl)]at hs6;rw[dZ.out.1,if_pos OH.out,List.append_nil];exact hs6
      have HS6:=qd OQ;have Zq:=qd Gy;have hz6:=hs6.size;have OT:∀g',(Value.slice (some ⟨g,0,none⟩) aO.length cI).ownBlock=some g'→g'<w6.heap.size:=fun g' hg'=>(Gy.lt g' hg').2;have Zr:=qd OT;clear HS HO HR tJ hs6 OQ oC Gy OT
      have acA:D.length+1≤100:=by have:=hlen.out;omega
      go_wp2_with (at_builtin;refine iK rfl rfl yt Wq rfl rfl rfl rfl rfl (by omega) (by omega) ?_;intro v4 w7 dG ig;obtain⟨A4,c4,rfl⟩:=bA dG);obtain⟨hs7,Zt⟩:=HS6.out.app HP Wq (Nat.le_refl _) DX.out ig
      have Zu:=Zq.out.kept ig.kr (.inr (by
       intro he;have hee:∃g',(Value.slice (some ⟨g,0,none⟩) aO.length cI).ownBlock=some g':=⟨g,rfl⟩;obtain⟨g',hg'⟩:=hee
       exact OP.out g' (by rw[←he];exact hg') hg'))
      have Zv:∀g',(Value.slice A4 (D.length+1) c4).ownBlock=some g'→(Value.slice (some ⟨g,0,none⟩) aO.length cI).ownBlock≠some g':=fun g' hg' he=>by
       rcases ig.at_ with h1|⟨g2,h1,h2⟩
       ·exact OP.out g' (h1▸hg') he
       ·have:=Zr.out g' he;rw[h1]at hg'
        injection hg' with hg'
        omega
      go_roundw
      case rel=>exact⟨i+1,D++[id],by omega,qd (by rw[dZ.out.2,if_pos OH.out,HD.out,List.append_assoc]),by go_num,qd hs7,by simpa[dD]using dG,qd Zu,qd (by simpa using Zt),qd (by simpa using Zv),by simp;omega⟩
      case measure=>simp[intOf];omega
     ·have hl1:¬(lf:Int)<1:=by omega
      have hne:¬left a2 id=0:=by rw[←jm.out];omega
      have eH:=qd hne;have hs5:=HS.out;rw[Li.out]at hs5;have Ve:=qd (show bD W0 E P At s w F0 w5 b2 (iC left a2 (aO.take (i+1))++aO.drop (i+1)) a2 F2 x2 from by rw[dZ.out.1,if_neg hne,List.append_assoc];exact hs5);clear hs5 hne HS;go_wp2;go_roundw
      case rel=>exact⟨i+1,D,by omega,qd (by rw[dZ.out.2,if_neg eH.out,List.append_nil];exact HD.out),by go_num,Ve,HO.out,tJ,DX,OP,by omega⟩
      case measure=>simp[intOf];omega
    ·obtain rfl:i=aO.length:=by omega
     have hlt':¬(aO.length:Int)<(aO.length:Int):=by omega
     have ht:aO.take aO.length=aO:=List.take_length;have hd:aO.drop aO.length=[]:=List.drop_length;rw[ht,hd,List.append_nil]at HS;rw[ht]at HD;clear ht hd;rw[HD.out]at HO DX⊢;go_wp2;go_ret;have DU:=HO.out;have Ws:=DX.out;rw[List.length_append]at DU Ws;exact⟨A,vc,e1,aO,a1,a2,rfl,DU,Zo.out,Zp.out,F2,x2,⟨b2,HS.out⟩,OJ.out.mono (by omega) (by omega),Ws⟩
end Go.Proofs.YtnfjjbpmhcbelaaGreatDoor
