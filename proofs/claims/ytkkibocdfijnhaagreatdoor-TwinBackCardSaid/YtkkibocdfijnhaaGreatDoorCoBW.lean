/- A scheduler's Serve by its contract. -/
import Derived.Test.YtkkibocdfijnhaaGreatDoorCoBV
import Derived.Test.YtkkibocdfijnhaaGreatDoorSqM
import Derived.Test.YtkkibocdfijnhaaGreatDoorLaneP
namespace Go.Proofs.YtkkibocdfijnhaaGreatDoor
set_option maxRecDepth 100000
set_option maxHeartbeats 8000000
open Go.RowKit bV
variable {c i id j : Nat} {e aL : List Nat}
def Jk {α:Type}(Stp:α→Nat→α→Prop)(id:Nat):Nat→α→α→Prop
 |0,a,a'=>a=a'
 |n+1,a,a'=>∃b,Jk Stp id n a b∧Stp b id a'
def vw {α:Type}(left:α→Nat→Nat)(Stp:α→Nat→α→Prop)(ids:List Nat)(own n:Nat)(a a':α):Prop:=
 (own∉ids∧a'=a)∨(own∈ids∧∃m,Jk Stp own m a a'∧m≤n∧(m=n∨left a' own=0))
def gN {α:Type}(left:α→Nat→Nat)(a:α)(ids:List Nat):List Nat:=ids.filter fun id=>left a id==0
def iG {α:Type}(left:α→Nat→Nat)(a:α)(ids:List Nat):List Nat:=ids.filter fun id=>left a id !=0
theorem FE {W0:World}{E:Nat→Addr}{P:MP}{α:Type}{jt:Nat→TypeId}{ja:Nat→Addr}{At:World→List Nat→α→Prop}{can:α→Nat→Prop}{left:α→Nat→Nat}{Stp:α→Nat→α→Prop}(HP:iT W0 E P jt ja At can left Stp):∀{n:Nat} {a a':α},Jk Stp id n a a'→can a j→can a' j
 |0,_,_,h,hc=>h▸hc
 |_+1,_,_,⟨_,h1,h2⟩,hc=>HP.jg h2 (FE HP h1 hc)
theorem QA {W0:World}{E:Nat→Addr}{P:MP}{α:Type}{jt:Nat→TypeId}{ja:Nat→Addr}{At:World→List Nat→α→Prop}{can:α→Nat→Prop}{left:α→Nat→Nat}{Stp:α→Nat→α→Prop}(HP:iT W0 E P jt ja At can left Stp){ids:List Nat}{a a':α}(h:rY left Stp c ids a e aL a')(hc:can a j):can a' j:=by
 induction h with
 |nil=>exact hc
 |broke=>exact hc
 |ended _ _ ih=>exact ih hc
 |step _ hs _ ih=>exact ih (HP.jg hs hc)
theorem qX {α:Type}{left:α→Nat→Nat}{Stp:α→Nat→α→Prop}{ids:List Nat}{a a':α}(h:rY left Stp c ids a e aL a'):ids=e++aL:=by
 induction h with
 |nil=>rfl
 |broke=>rfl
 |ended _ _ ih=>rw[ih];rfl
 |step _ _ _ ih=>exact ih
theorem Yl {W0 w0:World}{E:Nat→Addr}{P:MP}{α:Type}{jt:Nat→TypeId}{ja:Nat→Addr}{At:World→List Nat→α→Prop}{can:α→Nat→Prop}{left:α→Nat→Nat}{Stp:α→Nat→α→Prop}(HP:iT W0 E P jt ja At can left Stp)(s:SP)(F0 F:List Nat)(b:Nat)(hb:b≤1000)(ids:List Nat)(a:α)(x:bP)(id:Nat)(hc:can a id)(w:World)(h:bF W0 E P At s w0 F0 w (b:Int) ids a F x):
  Calls Tryz.prog 161 #[eU s.sb,mU P,.iface (jt id) (.pointer (some (ja id)))] w fun e w'=>(e= .returned (.bool true)∧∃a' F' x',1≤b∧Stp a id a'∧dO x x' 0 1∧bF W0 E P At s w0 F0 w' ((b-1:Nat):Int) ids a' F' x')∨(e= .returned (.bool false)∧(left a id=0∨b=0)∧bF W0 E P At s w0 F0 w' (b:Int) ids a F x):=by
 rcases Nat.eq_zero_or_pos (left a id)with h0|h1
 ·exact(step_done HP s F0 F b ids a x id hc h0 w h).mono fun e w' ⟨h1,h2⟩=> .inr ⟨h1,.inl h0,h.below HP h2⟩
 ·rcases b with _|b
  ·exact(Sb HP s F0 F ids a x id hc h1 w h).mono fun e w' ⟨h1,h2⟩=> .inr ⟨h1,.inr rfl,h.below HP h2⟩
  ·exact(NR HP s F0 F b (by omega) ids a x id hc h1 w h).mono fun e w' ⟨h1,a',F',x',h2,h3,h4,_⟩=> .inl ⟨h1,a',F',x',by omega,h2,h3,h4⟩
theorem KJ {α:Type}{left:α→Nat→Nat}{a:α}{ids:List Nat}(h:ids[i]?=some id):iG left a (ids.take (i+1))=iG left a (ids.take i)++(if left a id=0 then []else [id])∧gN left a (ids.take (i+1))=gN left a (ids.take i)++(if left a id=0 then [id]else []):=by
 have ht:ids.take (i+1)=ids.take i++[id]:=by rw[List.take_add_one,h];rfl
 unfold iG gN;rw[ht,List.filter_append,List.filter_append]
 by_cases h0:left a id=0<;>simp[h0]
theorem drop_cons {ids:List Nat}(h:ids[i]?=some id):ids.drop i=id::ids.drop (i+1):=by
 obtain⟨hl,rfl⟩:=List.getElem?_eq_some_iff.1 h;exact List.drop_eq_getElem_cons hl
theorem KL {l r:List Nat}(h:id∉l):(l++id::r).erase id=l++r:=by
 rw[List.erase_append_right _ h,List.erase_cons_head]
section
variable {W0 w0 w w2 : World} {E : Nat → Addr} {P : MP} {α : Type} {jt : Nat → TypeId} {ja : Nat → Addr} {At : World → List Nat → α → Prop} {can : α → Nat → Prop} {left : α → Nat → Nat} {Stp : α → Nat → α → Prop} {s : SP} {F0 F F2 : List Nat} {b b2 : Int} {ids aO : List Nat} {a a2 : α} {x x2 : bP}
theorem bF.again (h:bF W0 E P At s w0 F0 w b ids a F x):bF W0 E P At s w F w b ids a F x:=⟨h.aF,h.pool,h.met,h.env,h.apart,h.qV,h.env.size,fun _ hq=> .inl hq,Mod.refl _ _⟩
theorem bF.chain (h:bF W0 E P At s w0 F0 w b ids a F x)(k:bF W0 E P At s w F w2 b2 aO a2 F2 x2):bF W0 E P At s w0 F0 w2 b2 aO a2 F2 x2:=
 ⟨k.aF,k.pool,k.met,k.env,k.apart,k.qV,h.pK,fun q hq=>(k.sub q hq).elim (h.sub q) (fun hh=> .inr (Nat.le_trans h.size hh)),h.mod.trans k.mod (fun _ hq _=>hq) (fun q hq hl=>by
  rcases List.mem_cons.1 hq with h1|h1
  ·simp[h1]
  ·rcases List.mem_append.1 h1 with h2|h2
   ·simp[h2]
   ·rcases h.sub q h2 with h3|h3
    ·simp[h3]
    ·omega)⟩
end
theorem Hz {W0:World}{E:Nat→Addr}{P:MP}{α:Type}{jt:Nat→TypeId}{ja:Nat→Addr}{At:World→List Nat→α→Prop}{can:α→Nat→Prop}{left:α→Nat→Nat}{Stp:α→Nat→α→Prop}(HP:iT W0 E P jt ja At can left Stp)(s:SP)(F:List Nat)(K:Nat)(hK:1≤K∧K≤64)(hk:s.k=(K:Int))(b:Int)(ids:List Nat)(a:α)(x:bP)(own:Nat)(lD:own≤1000)(hin:own∉ids)(hval:∀id,s.val id= .iface (jt id) (.pointer (some (ja id))))(hcan:∀id∈ids,can a id∧id≤1000)(w:World)(h:bF W0 E P At s w F w b ids a F x):
  Calls Tryz.prog 119 #[eU s.sb,mU P,nI own] w fun e w'=>∃A cc e1 bZ a1 a2 F' x' b',e= .returned (.slice A (e1++gN left a2 bZ).length cc)∧w'.ownsRow w.heap.size 3 1 (.slice A (e1++gN left a2 bZ).length cc) (e1++gN left a2 bZ).length (dH (e1++gN left a2 bZ))∧vw left Stp ids own (8*K) a a1∧rY left Stp K ids a1 e1 bZ a2∧bF W0 E P At s w F w' b' (iG left a2 bZ) a2 F' x'∧dO x x' 0 (9*K)∧nM P s F' (.slice A (e1++gN left a2 bZ).length cc):=by
 have hval:=qd hval;have hlen:=qd h.aF.many;have H0:=qd h;have FC:=qd hcan;have qY:=qd hin;obtain⟨F0,KH⟩:∃F0,F0=F:=⟨_,rfl⟩
 have hk':1≤s.k∧s.k≤64:=by omega
 have NU:0≤8*s.k∧8*s.k≤1000:=by omega
 have Ve:8*s.k=((8*K:Nat):Int):=by rw[hk];omega
 have HK8:=qd Ve;have H8:=qd hk;have yN:=qd (xP own lD);unfold eU mU;clear h hcan hin Ve hk;rw[←KH]at H0⊢;clear KH;go_in;have HS:=H0;have jl:=qd (NI s.k 1 1 (by omega) w);unfold fZ at jl;obtain⟨sp,hsb⟩:=HS.out.aF.blk;have k0:=aj.cell hsb 0;have k1:=aj.cell hsb 1;have k2:=aj.cell hsb 2;have k4:=aj.cell hsb 4;simp only[gl]at k0 k1 k2 k4;clear hsb;go_wp2_with fail;refine jl.out.mono ?_;rintro x w1 ⟨rfl,hb⟩;replace HS:=qd (HS.out.below HP hb);clear k0 k1 k2 k4 hb jl;have gM:=qd (AY HP s F0 F0 b (8*s.k) NU ids a x w1 HS.out);unfold eU at gM;go_wp2_with fail;refine gM.out.mono ?_;rintro z w2 ⟨rfl,hs⟩;clear HS gM;have HS:=qd (show bF W0 E P At s w F0 w2 ((8*K:Nat):Int) ids a F0 x from by rw[←HK8.out];exact hs);clear hs H0;obtain⟨sp,hsb⟩:=HS.out.aF.blk;have k0:=aj.cell hsb 0;have k1:=aj.cell hsb 1;have k2:=aj.cell hsb 2;have k4:=aj.cell hsb 4;simp only[gl]at k0 k1 k2 k4;clear hsb;have nC:=qd HS.out.aF.map;have HV:=qd (show jC s.val ids (own:Int)=none from NN qY.out);go_wp2_with (at_lookup;refine BJ rfl _ _ rfl rfl nC.out _ rfl yN.out ?_;rw[HV.out]);clear k0 k1 k2 k4 nC;have Ym:=qd (show vw left Stp ids own (8*K) a a from .inl ⟨qY.out,rfl⟩);have H9:=FC.out;have FH:=qd (dO.refl x);have AZ:=qd H9;clear H9;have jl:=qd (Hl s.k 1 1 (by omega) w2);unfold fZ at jl;obtain⟨sp,hsb⟩:=HS.out.aF.blk;have k0:=aj.cell hsb 0;have k1:=aj.cell hsb 1;have k2:=aj.cell hsb 2;have k4:=aj.cell hsb 4;simp only[gl]at k0 k1 k2 k4;clear hsb;go_wp2_with fail;refine jl.out.mono ?_;rintro x w1 ⟨rfl,hb⟩
 replace HS:=qd (HS.out.below HP hb);clear k0 k1 k2 k4 hb jl;have gM:=qd (AY HP s F0 F0 ((8*K:Nat):Int) s.k (by omega) ids a x w1 HS.out);unfold eU at gM;go_wp2_with fail;refine gM.out.mono ?_;rintro x w2 ⟨rfl,hs⟩;clear HS gM;have HS:=qd (show bF W0 E P At s w F0 w2 ((K:Nat):Int) ids a F0 x from by rw[←H8.out];exact hs);clear hs;have EJ:=qd (CY HP s F0 K (by omega) ids a x hval.out AZ.out w2 HS.out.again);unfold eU mU at EJ;go_wp2_with fail;refine EJ.out.mono ?_;rintro x w3 ⟨A9,c9,e1,aO,a2,F2,x2,b2,rfl,CZ,hoth,hs3,C8,NV⟩;have jW:=qd (HS.out.chain hs3);have FI:=qd jW.out.size;have NW:=qd (FH.out.trans C8);have Yn:=qd hoth;have C9:=qd (qm CZ HS.out.size);have NY:=qd NV;have Sk:=qd (fun i (hi:i∈aO)=>And.intro (QA HP hoth (AZ.out i (by rw[qX hoth];simp[hi])).1) (AZ.out i (by rw[qX hoth];simp[hi])).2)
 have hel:e1.length+aO.length=ids.length:=by rw[qX hoth,List.length_append]
 clear HS CZ hoth hs3 C8 NV EJ;have kQ:=qd (KD s.sb s.qb s.rb s.jb s.k b2 s.val aO w3 jW.out.aF);unfold eU at kQ;go_wp2_with fail;refine kQ.out.mono ?_;rintro x w4 ⟨AI,cI,rfl,NZ,hb4⟩;have Ia:∀g,(Value.slice AI aO.length cI).ownBlock=some g→w3.heap.size≤g:=fun g hg=>(NZ.lt g hg).1
 have Vf:∀g,(Value.slice A9 e1.length c9).ownBlock=some g→(Value.slice AI aO.length cI).ownBlock≠some g:=fun g hg he=>by
  have h1:=(C9.out.lt g hg).2;have h2:=Ia g he;omega
 have N7:nM P s F2 (.slice AI aO.length cI):=fun g hg hq=>by
  have h1:=jW.out.fM HP g hq;have h2:=Ia g hg;omega
 replace jW:=qd (jW.out.below HP hb4);replace C9:=qB hb4 C9;have HRI:=qd N7;have r9:=qd (qm NZ (show w.heap.size≤w3.heap.size from FI.out));have Vg:=qd Vf;have HBI:=qd Ia;have hz4:=hb4.size;have ad8:=jW.out.size;have hzb:w.heap.size≤w3.heap.size:=FI.out;clear NZ hb4 N7 Vf Ia kQ;go_wp2;clear FI;go_loopw [9,11,46] (fun v9 _ v46 wr=>∃(i:Nat) (D:List Nat),i≤aO.length∧Hid (D=e1++gN left a2 (aO.take i))∧v46=nI i∧Hid (bF W0 E P At s w F0 wr b2 (iG left a2 (aO.take i)++aO.drop i) a2 F2 x2)∧wr.ownsRow w.heap.size 3 1 v9 D.length (dH D)∧Hid (wr.ownsRow w.heap.size 3 1 (.slice AI aO.length cI) aO.length (dH aO))∧Hid (nM P s F2 v9)∧Hid (∀g,v9.ownBlock=some g→(Value.slice AI aO.length cI).ownBlock≠some g)∧D.length≤e1.length+i) (fun _ _ v46 _=>aO.length-(intOf v46).toNat)
 case atStart=>exact⟨0,e1,by omega,qd (by simp[gN]),rfl,by simpa[iG]using jW,C9.out,r9,NY,Vg,by omega⟩
 case round=>
  clear C9 jW r9 NY Vg;obtain⟨i,D,hi,HD,rfl,HS,hO,r9,Da,N8,hdl⟩:=hrel;obtain⟨A,vc,rfl⟩:=bU hO;have HO:=qd hO;clear hO;by_cases hlt:i<aO.length
  ·have hlt':(i:Int)<(aO.length:Int):=by omega
   have hi0:(0:Int)≤(i:Int):=by omega
   have ab7:(i:Int)≤41:=by have:=hlen.out;omega
   obtain⟨id,hid⟩:∃id,aO[i]?=some id:=⟨_,List.getElem?_eq_getElem hlt⟩;obtain⟨g,Vh,hge,hgl,hce,_⟩:=mP r9.out hid;have mV:=Sk.out id (List.mem_of_getElem? hid);have hl:=HP.wG HS.out.pool mV.1;have HJ:=qd (HP.NQ mV.1);obtain⟨Fl,xR⟩:∃Fl,Fl=jB (jt id):=⟨_,rfl⟩;rw[←xR]at hl;have KI:=qd xR.symm;have HL:=qd hl;have yN:=qd (xP id mV.2);have nC:=qd HS.out.aF.map
   have hmem:id∈iG left a2 (aO.take i)++aO.drop i:=by rw[drop_cons hid];simp
   have HV:=qd (show jC s.val (iG left a2 (aO.take i)++aO.drop i) (id:Int)=some (.iface (jt id) (.pointer (some (ja id))))from by rw[xO hmem,hval.out]);have hle:=HP.le HS.out.pool mV.1;have eD:=qd (KJ (left:=left) (a:=a2) hid);have EK:=qd (drop_cons hid);have MX:=qd HS.out.aF.nd;have Hy:=qd mV;have Jl:=qd hmem;obtain⟨lf,hlf⟩:∃lf,lf=left a2 id:=⟨_,rfl⟩;rw[←hlf]at HL hle;have jm:=qd hlf;have HAI:=qd Vh;obtain⟨EH,EI⟩:=qW HS.out.aF;clear hl xR mV hlf hid hmem;subst Vh;go_wp2_with (at_lookup;refine wE rfl _ _ rfl rfl nC.out _ rfl yN.out _ HV.out ?_);rw[qQ HJ.out,Result.andThen_ok,qR HJ.out];rw[show jB (jt id)=Fl from KI.out];rw[Oper.upon_enter];refine HL.out.mono ?_;rintro x w5 ⟨rfl,hb5⟩;replace HS:=qd (HS.out.below HP hb5);replace HO:=qB hb5 HO;replace r9:=qB hb5 r9;clear HL EH EI hb5 KI nC hce;rcases Nat.eq_zero_or_pos lf with h0|h1
   ·subst h0;have zZ:=qd (show left a2 id=0 from jm.out.symm);have HR:=qd (AX HP s F0 F2 b2 _ a2 x2 id Jl.out Hy.out.2 w5 HS.out);unfold eU at HR;simp only[Int.ofNat_zero]at*;go_wp2_with fail;refine HR.out.mono ?_;rintro x w6 ⟨rfl,hs6,mK⟩;have Vi:=jJ HO.out mK (fun g hg hq=>Da.out g hg (by simp[hq]));have FJ:=jJ r9.out mK (fun g hg hq=>HRI.out g hg (by simp[hq]))
    have N9:bF W0 E P At s w F0 w6 b2 (iG left a2 (aO.take (i+1))++aO.drop (i+1)) a2 F2 x2:=by
     have hnd:=MX.out;rw[EK.out]at hs6 hnd;rw[KL (fun hh=>(List.nodup_append.1 hnd).2.2 id hh id (by simp) rfl)]at hs6;rw[eD.out.1,if_pos zZ.out,List.append_nil];exact hs6
    have HS6:=qd N9;have Yo:=qd FJ;have hz6:=hs6.size;have Oa:∀g',(Value.slice (some ⟨g,0,none⟩) aO.length cI).ownBlock=some g'→g'<w6.heap.size:=fun g' hg'=>(FJ.lt g' hg').2;have Yp:=qd Oa;clear HS HO HR r9 hs6 N9 mK FJ Oa
    have ab5:D.length+1≤100:=by have:=hlen.out;omega
    go_wp2_with (at_builtin;refine iN rfl rfl xM Vi rfl rfl rfl rfl rfl (by omega) (by omega) ?_;intro v4 w7 dJ iy;obtain⟨A4,c4,rfl⟩:=bU dJ);obtain⟨hs7,Yq⟩:=HS6.out.app HP Vi (Nat.le_refl _) Da.out iy
    have Yr:=Yo.out.kept iy.kE (.inr (by
     intro he;have hee:∃g',(Value.slice (some ⟨g,0,none⟩) aO.length cI).ownBlock=some g':=⟨g,rfl⟩;obtain⟨g',hg'⟩:=hee
     exact N8.out g' (by rw[←he];exact hg') hg'))
    have Yt:∀g',(Value.slice A4 (D.length+1) c4).ownBlock=some g'→(Value.slice (some ⟨g,0,none⟩) aO.length cI).ownBlock≠some g':=fun g' hg' he=>by
     rcases iy.at_ with h1|⟨g2,h1,h2⟩
     ·exact N8.out g' (h1▸hg') he
     ·have:=Yp.out g' he;rw[h1]at hg'
      injection hg' with hg'
      omega
    go_roundw
    case rel=>exact⟨i+1,D++[id],by omega,qd (by rw[eD.out.2,if_pos zZ.out,HD.out,List.append_assoc]),by go_num,qd hs7,by simpa[dH]using dJ,qd Yr,qd (by simpa using Yq),qd (by simpa using Yt),by simp;omega⟩
    case measure=>simp[intOf];omega
   ·have hl1:¬(lf:Int)<1:=by omega
    have hne:¬left a2 id=0:=by rw[←jm.out];omega
    have iW:=qd hne;have hs5:=HS.out;rw[EK.out]at hs5;have MN:=qd (show bF W0 E P At s w F0 w5 b2 (iG left a2 (aO.take (i+1))++aO.drop (i+1)) a2 F2 x2 from by rw[eD.out.1,if_neg hne,List.append_assoc];exact hs5);clear hs5 hne HS;go_wp2;go_roundw
    case rel=>exact⟨i+1,D,by omega,qd (by rw[eD.out.2,if_neg iW.out,List.append_nil];exact HD.out),by go_num,MN,HO.out,r9,Da,N8,by omega⟩
    case measure=>simp[intOf];omega
  ·obtain rfl:i=aO.length:=by omega
   have hlt':¬(aO.length:Int)<(aO.length:Int):=by omega
   have ht:aO.take aO.length=aO:=List.take_length;have hd:aO.drop aO.length=[]:=List.drop_length;rw[ht,hd,List.append_nil]at HS;rw[ht]at HD;clear ht hd;rw[HD.out]at HO Da⊢;go_wp2;go_ret;have CZ:=HO.out;have Vj:=Da.out;rw[List.length_append]at CZ Vj;exact⟨A,vc,e1,aO,a,a2,rfl,CZ,Ym.out,Yn.out,F2,x2,⟨b2,HS.out⟩,NW.out.mono (by omega) (by omega),Vj⟩
theorem Jm {W0:World}{E:Nat→Addr}{P:MP}{α:Type}{jt:Nat→TypeId}{ja:Nat→Addr}{At:World→List Nat→α→Prop}{can:α→Nat→Prop}{left:α→Nat→Nat}{Stp:α→Nat→α→Prop}(HP:iT W0 E P jt ja At can left Stp)(s:SP)(F:List Nat)(K:Nat)(hK:1≤K∧K≤64)(hk:s.k=(K:Int))(b:Int)(ids:List Nat)(a:α)(x:bP)(own:Nat)(lD:own≤1000)(hin:own∈ids)(hval:∀id,s.val id= .iface (jt id) (.pointer (some (ja id))))(hcan:∀id∈ids,can a id∧id≤1000)(w:World)(h:bF W0 E P At s w F w b ids a F x):
  Calls Tryz.prog 119 #[eU s.sb,mU P,nI own] w fun e w'=>∃A cc e1 bZ a1 a2 F' x' b',e= .returned (.slice A (e1++gN left a2 bZ).length cc)∧w'.ownsRow w.heap.size 3 1 (.slice A (e1++gN left a2 bZ).length cc) (e1++gN left a2 bZ).length (dH (e1++gN left a2 bZ))∧vw left Stp ids own (8*K) a a1∧rY left Stp K ids a1 e1 bZ a2∧bF W0 E P At s w F w' b' (iG left a2 bZ) a2 F' x'∧dO x x' 0 (9*K)∧nM P s F' (.slice A (e1++gN left a2 bZ).length cc):=by
 have hval:=qd hval;have hlen:=qd h.aF.many;have H0:=qd h;have FC:=qd hcan;have qY:=qd hin;obtain⟨F0,KH⟩:∃F0,F0=F:=⟨_,rfl⟩
 have hk':1≤s.k∧s.k≤64:=by omega
 have NU:0≤8*s.k∧8*s.k≤1000:=by omega
 have Ve:8*s.k=((8*K:Nat):Int):=by rw[hk];omega
 have HK8:=qd Ve;have H8:=qd hk;have yN:=qd (xP own lD);unfold eU mU;clear h hcan hin Ve hk;rw[←KH]at H0⊢;clear KH;go_in;have HS:=H0;have jl:=qd (NI s.k 1 1 (by omega) w);unfold fZ at jl;obtain⟨sp,hsb⟩:=HS.out.aF.blk;have k0:=aj.cell hsb 0;have k1:=aj.cell hsb 1;have k2:=aj.cell hsb 2;have k4:=aj.cell hsb 4;simp only[gl]at k0 k1 k2 k4;clear hsb;go_wp2_with fail;refine jl.out.mono ?_;rintro x w1 ⟨rfl,hb⟩;replace HS:=qd (HS.out.below HP hb);clear k0 k1 k2 k4 hb jl;have gM:=qd (AY HP s F0 F0 b (8*s.k) NU ids a x w1 HS.out);unfold eU at gM;go_wp2_with fail;refine gM.out.mono ?_;rintro z w2 ⟨rfl,hs⟩;clear HS gM;have HS:=qd (show bF W0 E P At s w F0 w2 ((8*K:Nat):Int) ids a F0 x from by rw[←HK8.out];exact hs);clear hs H0;obtain⟨sp,hsb⟩:=HS.out.aF.blk;have k0:=aj.cell hsb 0;have k1:=aj.cell hsb 1;have k2:=aj.cell hsb 2;have k4:=aj.cell hsb 4;simp only[gl]at k0 k1 k2 k4;clear hsb;have nC:=qd HS.out.aF.map;have HV:=qd (show jC s.val ids (own:Int)=some (.iface (jt own) (.pointer (some (ja own))))from by rw[xO qY.out,hval.out]);go_wp2_with (at_lookup;refine BJ rfl _ _ rfl rfl nC.out _ rfl yN.out ?_;rw[HV.out]);clear k0 k1 k2 k4 nC HV
 have h8K:8*K≤512:=by omega
 go_loopw [] (fun wr=>∃(n c:Nat) (a1:α) (F1:List Nat) (x1:bP),Hid (n+c=8*K)∧Hid (bF W0 E P At s w F0 wr (c:Int) ids a1 F1 x1)∧Hid (Jk Stp own n a a1)∧Hid (dO x x1 0 n)) (fun wr=>DY s.sb s.qb wr)
 case atStart=>exact⟨0,8*K,a,F0,x,qd (by omega),HS,qd rfl,qd (dO.refl x)⟩
 case round=>
  clear HS;obtain⟨n,c,a1,F1,x1,HN,HS,jy,FH⟩:=hrel
  have hc8:c≤512:=by have:=HN.out;omega
  have hn8:n≤8*K:=by have:=HN.out;omega
  have Hy:=qd (FE HP jy.out (FC.out own qY.out).1);have Ob:=qd HS.out.aF.meas;have Sl:=qd (Yl HP s F0 F1 c (by omega) ids a1 x1 own Hy.out wr HS.out);unfold eU mU at Sl;go_wp2_with fail;refine Sl.out.mono ?_;rintro e V (⟨rfl,a3,F3,x3,hc1,hst,hco,hs⟩|⟨rfl,hor,hs⟩)
  ·have jW:=qd hs;have ad9:=qd (show Jk Stp own (n+1) a a3 from⟨a1,jy.out,hst⟩);have aea:=qd (FH.out.trans hco);clear HS hs hst hco Sl;go_wp2;go_roundw
   case rel=>exact⟨n+1,c-1,a3,F3,x3,qd (by have:=HN.out;omega),jW,ad9,qd (aea.out.mono (by omega) (by omega))⟩
   case measure=>rw[Ob.out,jW.out.aF.meas];omega
  ·replace HS:=qd hs;have Ym:=qd (show vw left Stp ids own (8*K) a a1 from .inr ⟨qY.out,n,jy.out,hn8,by have:=HN.out;rcases hor with h1|h1;exact .inr h1;left;omega⟩);have H9:∀id∈ids,can a1 id∧id≤1000:=fun id hid=>⟨FE HP jy.out (FC.out id hid).1,(FC.out id hid).2⟩;clear hs hor Sl jy Ob HN Hy;have AZ:=qd H9;clear H9;have jl:=qd (Hl s.k 1 1 (by omega) V);unfold fZ at jl;obtain⟨sp,hsb⟩:=HS.out.aF.blk;have k0:=aj.cell hsb 0;have k1:=aj.cell hsb 1;have k2:=aj.cell hsb 2;have k4:=aj.cell hsb 4;simp only[gl]at k0 k1 k2 k4;clear hsb;go_wp2_with fail;refine jl.out.mono ?_;rintro x w1 ⟨rfl,hb⟩;replace HS:=qd (HS.out.below HP hb);clear k0 k1 k2 k4 hb jl;have gM:=qd (AY HP s F0 F1 (c:Int) s.k (by omega) ids a1 x1 w1 HS.out);unfold eU at gM;go_wp2_with fail;refine gM.out.mono ?_;rintro x w2 ⟨rfl,hs⟩;clear HS gM;have HS:=qd (show bF W0 E P At s w F0 w2 ((K:Nat):Int) ids a1 F1 x1 from by rw[←H8.out];exact hs);clear hs;have EJ:=qd (CY HP s F1 K (by omega) ids a1 x1 hval.out AZ.out w2 HS.out.again);unfold eU mU at EJ;go_wp2_with fail;refine EJ.out.mono ?_;rintro x w3 ⟨A9,c9,e1,aO,a2,F2,x2,b2,rfl,CZ,hoth,hs3,C8,NV⟩;have jW:=qd (HS.out.chain hs3);have FI:=qd jW.out.size;have NW:=qd (FH.out.trans C8);have Yn:=qd hoth;have C9:=qd (qm CZ HS.out.size);have NY:=qd NV;have Sk:=qd (fun i (hi:i∈aO)=>And.intro (QA HP hoth (AZ.out i (by rw[qX hoth];simp[hi])).1) (AZ.out i (by rw[qX hoth];simp[hi])).2)
   have hel:e1.length+aO.length=ids.length:=by rw[qX hoth,List.length_append]
   clear HS CZ hoth hs3 C8 NV EJ;have kQ:=qd (KD s.sb s.qb s.rb s.jb s.k b2 s.val aO w3 jW.out.aF);unfold eU at kQ;go_wp2_with fail;refine kQ.out.mono ?_;rintro x w4 ⟨AI,cI,rfl,NZ,hb4⟩;have Ia:∀g,(Value.slice AI aO.length cI).ownBlock=some g→w3.heap.size≤g:=fun g hg=>(NZ.lt g hg).1
   have Vf:∀g,(Value.slice A9 e1.length c9).ownBlock=some g→(Value.slice AI aO.length cI).ownBlock≠some g:=fun g hg he=>by
    have h1:=(C9.out.lt g hg).2;have h2:=Ia g he;omega
   have N7:nM P s F2 (.slice AI aO.length cI):=fun g hg hq=>by
    have h1:=jW.out.fM HP g hq;have h2:=Ia g hg;omega
   replace jW:=qd (jW.out.below HP hb4);replace C9:=qB hb4 C9;have HRI:=qd N7;have r9:=qd (qm NZ (show w.heap.size≤w3.heap.size from FI.out));have Vg:=qd Vf;have HBI:=qd Ia;have hz4:=hb4.size;have ad8:=jW.out.size;have hzb:w.heap.size≤w3.heap.size:=FI.out;clear NZ hb4 N7 Vf Ia kQ;go_wp2;clear FI;go_loopw [9,11,46] (fun v9 _ v46 wr=>∃(i:Nat) (D:List Nat),i≤aO.length∧Hid (D=e1++gN left a2 (aO.take i))∧v46=nI i∧Hid (bF W0 E P At s w F0 wr b2 (iG left a2 (aO.take i)++aO.drop i) a2 F2 x2)∧wr.ownsRow w.heap.size 3 1 v9 D.length (dH D)∧Hid (wr.ownsRow w.heap.size 3 1 (.slice AI aO.length cI) aO.length (dH aO))∧Hid (nM P s F2 v9)∧Hid (∀g,v9.ownBlock=some g→(Value.slice AI aO.length cI).ownBlock≠some g)∧D.length≤e1.length+i) (fun _ _ v46 _=>aO.length-(intOf v46).toNat)
   case atStart=>exact⟨0,e1,by omega,qd (by simp[gN]),rfl,by simpa[iG]using jW,C9.out,r9,NY,Vg,by omega⟩
   case round=>
    clear C9 jW r9 NY Vg;obtain⟨i,D,hi,HD,rfl,HS,hO,r9,Da,N8,hdl⟩:=hrel;obtain⟨A,vc,rfl⟩:=bU hO;have HO:=qd hO;clear hO;by_cases hlt:i<aO.length
    ·have hlt':(i:Int)<(aO.length:Int):=by omega
     have hi0:(0:Int)≤(i:Int):=by omega
     have ab7:(i:Int)≤41:=by have:=hlen.out;omega
     obtain⟨id,hid⟩:∃id,aO[i]?=some id:=⟨_,List.getElem?_eq_getElem hlt⟩;obtain⟨g,Vh,hge,hgl,hce,_⟩:=mP r9.out hid;have mV:=Sk.out id (List.mem_of_getElem? hid);have hl:=HP.wG HS.out.pool mV.1;have HJ:=qd (HP.NQ mV.1);obtain⟨Fl,xR⟩:∃Fl,Fl=jB (jt id):=⟨_,rfl⟩;rw[←xR]at hl;have KI:=qd xR.symm;have HL:=qd hl;have yN:=qd (xP id mV.2);have nC:=qd HS.out.aF.map
     have hmem:id∈iG left a2 (aO.take i)++aO.drop i:=by rw[drop_cons hid];simp
     have HV:=qd (show jC s.val (iG left a2 (aO.take i)++aO.drop i) (id:Int)=some (.iface (jt id) (.pointer (some (ja id))))from by rw[xO hmem,hval.out]);have hle:=HP.le HS.out.pool mV.1;have eD:=qd (KJ (left:=left) (a:=a2) hid);have EK:=qd (drop_cons hid);have MX:=qd HS.out.aF.nd;have Hy:=qd mV;have Jl:=qd hmem;obtain⟨lf,hlf⟩:∃lf,lf=left a2 id:=⟨_,rfl⟩;rw[←hlf]at HL hle;have jm:=qd hlf;have HAI:=qd Vh;obtain⟨EH,EI⟩:=qW HS.out.aF;clear hl xR mV hlf hid hmem;subst Vh;go_wp2_with (at_lookup;refine wE rfl _ _ rfl rfl nC.out _ rfl yN.out _ HV.out ?_);rw[qQ HJ.out,Result.andThen_ok,qR HJ.out];rw[show jB (jt id)=Fl from KI.out];rw[Oper.upon_enter];refine HL.out.mono ?_;rintro x w5 ⟨rfl,hb5⟩;replace HS:=qd (HS.out.below HP hb5);replace HO:=qB hb5 HO;replace r9:=qB hb5 r9;clear HL EH EI hb5 KI nC hce;rcases Nat.eq_zero_or_pos lf with h0|h1
     ·subst h0;have zZ:=qd (show left a2 id=0 from jm.out.symm);have HR:=qd (AX HP s F0 F2 b2 _ a2 x2 id Jl.out Hy.out.2 w5 HS.out);unfold eU at HR;simp only[Int.ofNat_zero]at*;go_wp2_with fail;refine HR.out.mono ?_;rintro x w6 ⟨rfl,hs6,mK⟩;have Vi:=jJ HO.out mK (fun g hg hq=>Da.out g hg (by simp[hq]));have FJ:=jJ r9.out mK (fun g hg hq=>HRI.out g hg (by simp[hq]))
      have N9:bF W0 E P At s w F0 w6 b2 (iG left a2 (aO.take (i+1))++aO.drop (i+1)) a2 F2 x2:=by
       have hnd:=MX.out;rw[EK.out]at hs6 hnd;rw[KL (fun hh=>(List.nodup_append.1 hnd).2.2 id hh id (by simp) rfl)]at hs6;rw[eD.out.1,if_pos zZ.out,List.append_nil];exact hs6
      have HS6:=qd N9;have Yo:=qd FJ;have hz6:=hs6.size;have Oa:∀g',(Value.slice (some ⟨g,0,none⟩) aO.length cI).ownBlock=some g'→g'<w6.heap.size:=fun g' hg'=>(FJ.lt g' hg').2;have Yp:=qd Oa;clear HS HO HR r9 hs6 N9 mK FJ Oa
      have ab5:D.length+1≤100:=by have:=hlen.out;omega
      go_wp2_with (at_builtin;refine iN rfl rfl xM Vi rfl rfl rfl rfl rfl (by omega) (by omega) ?_;intro v4 w7 dJ iy;obtain⟨A4,c4,rfl⟩:=bU dJ);obtain⟨hs7,Yq⟩:=HS6.out.app HP Vi (Nat.le_refl _) Da.out iy
      have Yr:=Yo.out.kept iy.kE (.inr (by
       intro he;have hee:∃g',(Value.slice (some ⟨g,0,none⟩) aO.length cI).ownBlock=some g':=⟨g,rfl⟩;obtain⟨g',hg'⟩:=hee
       exact N8.out g' (by rw[←he];exact hg') hg'))
      have Yt:∀g',(Value.slice A4 (D.length+1) c4).ownBlock=some g'→(Value.slice (some ⟨g,0,none⟩) aO.length cI).ownBlock≠some g':=fun g' hg' he=>by
       rcases iy.at_ with h1|⟨g2,h1,h2⟩
       ·exact N8.out g' (h1▸hg') he
       ·have:=Yp.out g' he;rw[h1]at hg'
        injection hg' with hg'
        omega
      go_roundw
      case rel=>exact⟨i+1,D++[id],by omega,qd (by rw[eD.out.2,if_pos zZ.out,HD.out,List.append_assoc]),by go_num,qd hs7,by simpa[dH]using dJ,qd Yr,qd (by simpa using Yq),qd (by simpa using Yt),by simp;omega⟩
      case measure=>simp[intOf];omega
     ·have hl1:¬(lf:Int)<1:=by omega
      have hne:¬left a2 id=0:=by rw[←jm.out];omega
      have iW:=qd hne;have hs5:=HS.out;rw[EK.out]at hs5;have MN:=qd (show bF W0 E P At s w F0 w5 b2 (iG left a2 (aO.take (i+1))++aO.drop (i+1)) a2 F2 x2 from by rw[eD.out.1,if_neg hne,List.append_assoc];exact hs5);clear hs5 hne HS;go_wp2;go_roundw
      case rel=>exact⟨i+1,D,by omega,qd (by rw[eD.out.2,if_neg iW.out,List.append_nil];exact HD.out),by go_num,MN,HO.out,r9,Da,N8,by omega⟩
      case measure=>simp[intOf];omega
    ·obtain rfl:i=aO.length:=by omega
     have hlt':¬(aO.length:Int)<(aO.length:Int):=by omega
     have ht:aO.take aO.length=aO:=List.take_length;have hd:aO.drop aO.length=[]:=List.drop_length;rw[ht,hd,List.append_nil]at HS;rw[ht]at HD;clear ht hd;rw[HD.out]at HO Da⊢;go_wp2;go_ret;have CZ:=HO.out;have Vj:=Da.out;rw[List.length_append]at CZ Vj;exact⟨A,vc,e1,aO,a1,a2,rfl,CZ,Ym.out,Yn.out,F2,x2,⟨b2,HS.out⟩,NW.out.mono (by omega) (by omega),Vj⟩
end Go.Proofs.YtkkibocdfijnhaaGreatDoor
