/- A scheduler's Serve by its contract. -/
import Derived.Test.YtgkeameopnpinaaGreatDoorCoBV
import Derived.Test.YtgkeameopnpinaaGreatDoorSqM
import Derived.Test.YtgkeameopnpinaaGreatDoorLaneP
namespace Go.Proofs.YtgkeameopnpinaaGreatDoor
set_option maxRecDepth 100000
set_option maxHeartbeats 8000000
open Go.RowKit bY
variable {c i id j : Nat} {e aJ : List Nat}
def Hg {α:Type}(Stp:α→Nat→α→Prop)(id:Nat):Nat→α→α→Prop
 |0,a,a'=>a=a'
 |n+1,a,a'=>∃b,Hg Stp id n a b∧Stp b id a'
def ug {α:Type}(left:α→Nat→Nat)(Stp:α→Nat→α→Prop)(ids:List Nat)(own n:Nat)(a a':α):Prop:=
 (own∉ids∧a'=a)∨(own∈ids∧∃m,Hg Stp own m a a'∧m≤n∧(m=n∨left a' own=0))
def fO {α:Type}(left:α→Nat→Nat)(a:α)(ids:List Nat):List Nat:=ids.filter fun id=>left a id==0
def gY {α:Type}(left:α→Nat→Nat)(a:α)(ids:List Nat):List Nat:=ids.filter fun id=>left a id !=0
theorem Ep {W0:World}{E:Nat→Addr}{P:MP}{α:Type}{jt:Nat→TypeId}{ja:Nat→Addr}{At:World→List Nat→α→Prop}{can:α→Nat→Prop}{left:α→Nat→Nat}{Stp:α→Nat→α→Prop}(HP:iG W0 E P jt ja At can left Stp):∀{n:Nat} {a a':α},Hg Stp id n a a'→can a j→can a' j
 |0,_,_,h,hc=>h▸hc
 |_+1,_,_,⟨_,h1,h2⟩,hc=>HP.iR h2 (Ep HP h1 hc)
theorem Pb {W0:World}{E:Nat→Addr}{P:MP}{α:Type}{jt:Nat→TypeId}{ja:Nat→Addr}{At:World→List Nat→α→Prop}{can:α→Nat→Prop}{left:α→Nat→Nat}{Stp:α→Nat→α→Prop}(HP:iG W0 E P jt ja At can left Stp){ids:List Nat}{a a':α}(h:rC left Stp c ids a e aJ a')(hc:can a j):can a' j:=by
 induction h with
 |nil=>exact hc
 |broke=>exact hc
 |ended _ _ ih=>exact ih hc
 |step _ hs _ ih=>exact ih (HP.iR hs hc)
theorem qz {α:Type}{left:α→Nat→Nat}{Stp:α→Nat→α→Prop}{ids:List Nat}{a a':α}(h:rC left Stp c ids a e aJ a'):ids=e++aJ:=by
 induction h with
 |nil=>rfl
 |broke=>rfl
 |ended _ _ ih=>rw[ih];rfl
 |step _ _ _ ih=>exact ih
theorem WX {W0 w0:World}{E:Nat→Addr}{P:MP}{α:Type}{jt:Nat→TypeId}{ja:Nat→Addr}{At:World→List Nat→α→Prop}{can:α→Nat→Prop}{left:α→Nat→Nat}{Stp:α→Nat→α→Prop}(HP:iG W0 E P jt ja At can left Stp)(s:SP)(F0 F:List Nat)(b:Nat)(hb:b≤1000)(ids:List Nat)(a:α)(x:bI)(id:Nat)(hc:can a id)(w:World)(h:bA W0 E P At s w0 F0 w (b:Int) ids a F x):
  Calls Tryz.prog 175 #[eu s.sb,lT P,.iface (jt id) (.pointer (some (ja id)))] w fun e w'=>(e= .returned (.bool true)∧∃a' F' x',1≤b∧Stp a id a'∧dI x x' 0 1∧bA W0 E P At s w0 F0 w' ((b-1:Nat):Int) ids a' F' x')∨(e= .returned (.bool false)∧(left a id=0∨b=0)∧bA W0 E P At s w0 F0 w' (b:Int) ids a F x):=by
 rcases Nat.eq_zero_or_pos (left a id)with h0|h1
 ·exact(step_done HP s F0 F b ids a x id hc h0 w h).mono fun e w' ⟨h1,h2⟩=> .inr ⟨h1,.inl h0,h.below HP h2⟩
 ·rcases b with _|b
  ·exact(QS HP s F0 F ids a x id hc h1 w h).mono fun e w' ⟨h1,h2⟩=> .inr ⟨h1,.inr rfl,h.below HP h2⟩
  ·exact(Mi HP s F0 F b (by omega) ids a x id hc h1 w h).mono fun e w' ⟨h1,a',F',x',h2,h3,h4,_⟩=> .inl ⟨h1,a',F',x',by omega,h2,h3,h4⟩
theorem JA {α:Type}{left:α→Nat→Nat}{a:α}{ids:List Nat}(h:ids[i]?=some id):gY left a (ids.take (i+1))=gY left a (ids.take i)++(if left a id=0 then []else [id])∧fO left a (ids.take (i+1))=fO left a (ids.take i)++(if left a id=0 then [id]else []):=by
 have ht:ids.take (i+1)=ids.take i++[id]:=by rw[List.take_add_one,h];rfl
 unfold gY fO;rw[ht,List.filter_append,List.filter_append]
 by_cases h0:left a id=0<;>simp[h0]
theorem drop_cons {ids:List Nat}(h:ids[i]?=some id):ids.drop i=id::ids.drop (i+1):=by
 obtain⟨hl,rfl⟩:=List.getElem?_eq_some_iff.1 h;exact List.drop_eq_getElem_cons hl
theorem JB {l r:List Nat}(h:id∉l):(l++id::r).erase id=l++r:=by
 rw[List.erase_append_right _ h,List.erase_cons_head]
section
variable {W0 w0 w w2 : World} {E : Nat → Addr} {P : MP} {α : Type} {jt : Nat → TypeId} {ja : Nat → Addr} {At : World → List Nat → α → Prop} {can : α → Nat → Prop} {left : α → Nat → Nat} {Stp : α → Nat → α → Prop} {s : SP} {F0 F F2 : List Nat} {b b2 : Int} {ids aN : List Nat} {a a2 : α} {x x2 : bI}
theorem bA.again (h:bA W0 E P At s w0 F0 w b ids a F x):bA W0 E P At s w F w b ids a F x:=⟨h.aC,h.pool,h.met,h.env,h.apart,h.qx,h.env.size,fun _ hq=> .inl hq,Mod.refl _ _⟩
theorem bA.chain (h:bA W0 E P At s w0 F0 w b ids a F x)(k:bA W0 E P At s w F w2 b2 aN a2 F2 x2):bA W0 E P At s w0 F0 w2 b2 aN a2 F2 x2:=
 ⟨k.aC,k.pool,k.met,k.env,k.apart,k.qx,h.oU,fun q hq=>(k.sub q hq).elim (h.sub q) (fun hh=> .inr (Nat.le_trans h.size hh)),h.mod.trans k.mod (fun _ hq _=>hq) (fun q hq hl=>by
  rcases List.mem_cons.1 hq with h1|h1
  ·simp[h1]
  ·rcases List.mem_append.1 h1 with h2|h2
   ·simp[h2]
   ·rcases h.sub q h2 with h3|h3
    ·simp[h3]
    ·omega)⟩
end
theorem F5 {W0:World}{E:Nat→Addr}{P:MP}{α:Type}{jt:Nat→TypeId}{ja:Nat→Addr}{At:World→List Nat→α→Prop}{can:α→Nat→Prop}{left:α→Nat→Nat}{Stp:α→Nat→α→Prop}(HP:iG W0 E P jt ja At can left Stp)(s:SP)(F:List Nat)(K:Nat)(hK:1≤K∧K≤64)(hk:s.k=(K:Int))(b:Int)(ids:List Nat)(a:α)(x:bI)(own:Nat)(kK:own≤1000)(hin:own∉ids)(hval:∀id,s.val id= .iface (jt id) (.pointer (some (ja id))))(hcan:∀id∈ids,can a id∧id≤1000)(w:World)(h:bA W0 E P At s w F w b ids a F x):
  Calls Tryz.prog 137 #[eu s.sb,lT P,nI own] w fun e w'=>∃A cc e1 bQ a1 a2 F' x' b',e= .returned (.slice A (e1++fO left a2 bQ).length cc)∧w'.ownsRow w.heap.size 3 1 (.slice A (e1++fO left a2 bQ).length cc) (e1++fO left a2 bQ).length (dz (e1++fO left a2 bQ))∧ug left Stp ids own (8*K) a a1∧rC left Stp K ids a1 e1 bQ a2∧bA W0 E P At s w F w' b' (gY left a2 bQ) a2 F' x'∧dI x x' 0 (9*K)∧mO P s F' (.slice A (e1++fO left a2 bQ).length cc):=by
 have hval:=qd hval;have hlen:=qd h.aC.many;have H0:=qd h;have En:=qd hcan;have y9:=qd hin;obtain⟨F0,Jy⟩:∃F0,F0=F:=⟨_,rfl⟩
 have hk':1≤s.k∧s.k≤64:=by omega
 have hk8:0≤8*s.k∧8*s.k≤1000:=by omega
 have TN:8*s.k=((8*K:Nat):Int):=by rw[hk];omega
 have HK8:=qd TN;have F7:=qd hk;have DK:=qd (wo own kK);unfold eu lT;clear h hcan hin TN hk;rw[←Jy]at H0⊢;clear Jy;go_in;have HS:=H0;have iW:=qd (L9 s.k 1 1 (by omega) w);unfold jS at iW;obtain⟨sp,hsb⟩:=HS.out.aC.blk;have k0:=aj.cell hsb 0;have k1:=aj.cell hsb 1;have k2:=aj.cell hsb 2;have k4:=aj.cell hsb 4;simp only[gl]at k0 k1 k2 k4;clear hsb;go_wp2_with fail;refine iW.out.mono ?_;rintro x w1 ⟨rfl,hb⟩;replace HS:=qd (HS.out.below HP hb);clear k0 k1 k2 k4 hb iW;have fM:=qd (zQ HP s F0 F0 b (8*s.k) hk8 ids a x w1 HS.out);unfold eu at fM;go_wp2_with fail;refine fM.out.mono ?_;rintro z w2 ⟨rfl,hs⟩;clear HS fM;have HS:=qd (show bA W0 E P At s w F0 w2 ((8*K:Nat):Int) ids a F0 x from by rw[←HK8.out];exact hs);clear hs H0;obtain⟨sp,hsb⟩:=HS.out.aC.blk;have k0:=aj.cell hsb 0;have k1:=aj.cell hsb 1;have k2:=aj.cell hsb 2;have k4:=aj.cell hsb 4;simp only[gl]at k0 k1 k2 k4;clear hsb;have mE:=qd HS.out.aC.map;have HV:=qd (show je s.val ids (own:Int)=none from Mf y9.out);go_wp2_with (at_lookup;refine Ay rfl _ _ rfl rfl mE.out _ rfl DK.out ?_;rw[HV.out]);clear k0 k1 k2 k4 mE;have WY:=qd (show ug left Stp ids own (8*K) a a from .inl ⟨y9.out,rfl⟩);have F9:=En.out;have Er:=qd (dI.refl x);have zR:=qd F9;clear F9;have iW:=qd (FR s.k 1 1 (by omega) w2);unfold jS at iW;obtain⟨sp,hsb⟩:=HS.out.aC.blk;have k0:=aj.cell hsb 0;have k1:=aj.cell hsb 1;have k2:=aj.cell hsb 2;have k4:=aj.cell hsb 4;simp only[gl]at k0 k1 k2 k4;clear hsb;go_wp2_with fail;refine iW.out.mono ?_;rintro x w1 ⟨rfl,hb⟩
 replace HS:=qd (HS.out.below HP hb);clear k0 k1 k2 k4 hb iW;have fM:=qd (zQ HP s F0 F0 ((8*K:Nat):Int) s.k (by omega) ids a x w1 HS.out);unfold eu at fM;go_wp2_with fail;refine fM.out.mono ?_;rintro x w2 ⟨rfl,hs⟩;clear HS fM;have HS:=qd (show bA W0 E P At s w F0 w2 ((K:Nat):Int) ids a F0 x from by rw[←F7.out];exact hs);clear hs;have DL:=qd (BS HP s F0 K (by omega) ids a x hval.out zR.out w2 HS.out.again);unfold eu lT at DL;go_wp2_with fail;refine DL.out.mono ?_;rintro x w3 ⟨A9,c9,e1,aN,a2,F2,x2,b2,rfl,BU,hoth,hs3,BX,Mr⟩;have j5:=qd (HS.out.chain hs3);have Es:=qd j5.out.size;have Ms:=qd (Er.out.trans BX);have WZ:=qd hoth;have BZ:=qd (pE BU HS.out.size);have Mt:=qd Mr;have QY:=qd (fun i (hi:i∈aN)=>And.intro (Pb HP hoth (zR.out i (by rw[qz hoth];simp[hi])).1) (zR.out i (by rw[qz hoth];simp[hi])).2)
 have hel:e1.length+aN.length=ids.length:=by rw[qz hoth,List.length_append]
 clear HS BU hoth hs3 BX Mr DL;have j6:=qd (Jt s.sb s.qb s.rb s.jb s.k b2 s.val aN w3 j5.out.aC);unfold eu at j6;go_wp2_with fail;refine j6.out.mono ?_;rintro x w4 ⟨AI,cI,rfl,Mv,hb4⟩;have Ga:∀g,(Value.slice AI aN.length cI).ownBlock=some g→w3.heap.size≤g:=fun g hg=>(Mv.lt g hg).1
 have TP:∀g,(Value.slice A9 e1.length c9).ownBlock=some g→(Value.slice AI aN.length cI).ownBlock≠some g:=fun g hg he=>by
  have h1:=(BZ.out.lt g hg).2;have h2:=Ga g he;omega
 have Mw:mO P s F2 (.slice AI aN.length cI):=fun g hg hq=>by
  have h1:=j5.out.fA HP g hq;have h2:=Ga g hg;omega
 replace j5:=qd (j5.out.below HP hb4);replace BZ:=qB hb4 BZ;have HRI:=qd Mw;have rE:=qd (pE Mv (show w.heap.size≤w3.heap.size from Es.out));have TQ:=qd TP;have HBI:=qd Ga;have YB:=hb4.size;have ac5:=j5.out.size;have hzb:w.heap.size≤w3.heap.size:=Es.out;clear Mv hb4 Mw TP Ga j6;go_wp2;clear Es;go_loopw [9,11,46] (fun v9 _ v46 wr=>∃(i:Nat) (D:List Nat),i≤aN.length∧Hid (D=e1++fO left a2 (aN.take i))∧v46=nI i∧Hid (bA W0 E P At s w F0 wr b2 (gY left a2 (aN.take i)++aN.drop i) a2 F2 x2)∧wr.ownsRow w.heap.size 3 1 v9 D.length (dz D)∧Hid (wr.ownsRow w.heap.size 3 1 (.slice AI aN.length cI) aN.length (dz aN))∧Hid (mO P s F2 v9)∧Hid (∀g,v9.ownBlock=some g→(Value.slice AI aN.length cI).ownBlock≠some g)∧D.length≤e1.length+i) (fun _ _ v46 _=>aN.length-(intOf v46).toNat)
 case atStart=>exact⟨0,e1,by omega,qd (by simp[fO]),rfl,by simpa[gY]using j5,BZ.out,rE,Mt,TQ,by omega⟩
 case round=>
  clear BZ j5 rE Mt TQ;obtain⟨i,D,hi,HD,rfl,HS,hO,rE,Ca,Mx,hdl⟩:=hrel;obtain⟨A,vc,rfl⟩:=bE hO;have HO:=qd hO;clear hO;by_cases hlt:i<aN.length
  ·have hlt':(i:Int)<(aN.length:Int):=by omega
   have hi0:(0:Int)≤(i:Int):=by omega
   have aaV:(i:Int)≤41:=by have:=hlen.out;omega
   obtain⟨id,hid⟩:∃id,aN[i]?=some id:=⟨_,List.getElem?_eq_getElem hlt⟩;obtain⟨g,TR,hge,hgl,hce,_⟩:=lQ rE.out hid;have lU:=QY.out id (List.mem_of_getElem? hid);have hl:=HP.uV HS.out.pool lU.1;have HJ:=qd (HP.Mh lU.1);obtain⟨Fl,wB⟩:∃Fl,Fl=jd (jt id):=⟨_,rfl⟩;rw[←wB]at hl;have Jz:=qd wB.symm;have HL:=qd hl;have DK:=qd (wo id lU.2);have mE:=qd HS.out.aC.map
   have hmem:id∈gY left a2 (aN.take i)++aN.drop i:=by rw[drop_cons hid];simp
   have HV:=qd (show je s.val (gY left a2 (aN.take i)++aN.drop i) (id:Int)=some (.iface (jt id) (.pointer (some (ja id))))from by rw[wm hmem,hval.out]);have hle:=HP.le HS.out.pool lU.1;have dU:=qd (JA (left:=left) (a:=a2) hid);have JC:=qd (drop_cons hid);have BA:=qd HS.out.aC.nd;have FZ:=qd lU;have Hl:=qd hmem;obtain⟨lf,hlf⟩:∃lf,lf=left a2 id:=⟨_,rfl⟩;rw[←hlf]at HL hle;have iX:=qd hlf;have HAI:=qd TR;obtain⟨DI,DJ⟩:=qy HS.out.aC;clear hl wB lU hlf hid hmem;subst TR;go_wp2_with (at_lookup;refine uT rfl _ _ rfl rfl mE.out _ rfl DK.out _ HV.out ?_);rw[qp HJ.out,Result.andThen_ok,qw HJ.out];rw[show jd (jt id)=Fl from Jz.out];rw[Oper.upon_enter];refine HL.out.mono ?_;rintro x w5 ⟨rfl,hb5⟩;replace HS:=qd (HS.out.below HP hb5);replace HO:=qB hb5 HO;replace rE:=qB hb5 rE;clear HL DI DJ hb5 Jz mE hce;rcases Nat.eq_zero_or_pos lf with h0|h1
   ·subst h0;have Ml:=qd (show left a2 id=0 from iX.out.symm);have HR:=qd (zP HP s F0 F2 b2 _ a2 x2 id Hl.out FZ.out.2 w5 HS.out);unfold eu at HR;simp only[Int.ofNat_zero]at*;go_wp2_with fail;refine HR.out.mono ?_;rintro x w6 ⟨rfl,hs6,nC⟩;have TS:=jl HO.out nC (fun g hg hq=>Ca.out g hg (by simp[hq]));have Et:=jl rE.out nC (fun g hg hq=>HRI.out g hg (by simp[hq]))
    have MB:bA W0 E P At s w F0 w6 b2 (gY left a2 (aN.take (i+1))++aN.drop (i+1)) a2 F2 x2:=by
     have hnd:=BA.out;rw[JC.out]at hs6 hnd;rw[JB (fun hh=>(List.nodup_append.1 hnd).2.2 id hh id (by simp) rfl)]at hs6;rw[dU.out.1,if_pos Ml.out,List.append_nil];exact hs6
    have HS6:=qd MB;have W9:=qd Et;have hz6:=hs6.size;have MC:∀g',(Value.slice (some ⟨g,0,none⟩) aN.length cI).ownBlock=some g'→g'<w6.heap.size:=fun g' hg'=>(Et.lt g' hg').2;have Xa:=qd MC;clear HS HO HR rE hs6 MB nC Et MC
    have aaT:D.length+1≤100:=by have:=hlen.out;omega
    go_wp2_with (at_builtin;refine jM rfl rfl wh TS rfl rfl rfl rfl rfl (by omega) (by omega) ?_;intro v4 w7 dD gM;obtain⟨A4,c4,rfl⟩:=bE dD);obtain⟨hs7,Xb⟩:=HS6.out.app HP TS (Nat.le_refl _) Ca.out gM
    have Xc:=W9.out.kept gM.lX (.inr (by
     intro he;have hee:∃g',(Value.slice (some ⟨g,0,none⟩) aN.length cI).ownBlock=some g':=⟨g,rfl⟩;obtain⟨g',hg'⟩:=hee
     exact Mx.out g' (by rw[←he];exact hg') hg'))
    have Xd:∀g',(Value.slice A4 (D.length+1) c4).ownBlock=some g'→(Value.slice (some ⟨g,0,none⟩) aN.length cI).ownBlock≠some g':=fun g' hg' he=>by
     rcases gM.at_ with h1|⟨g2,h1,h2⟩
     ·exact Mx.out g' (h1▸hg') he
     ·have:=Xa.out g' he;rw[h1]at hg'
      injection hg' with hg'
      omega
    go_roundw
    case rel=>exact⟨i+1,D++[id],by omega,qd (by rw[dU.out.2,if_pos Ml.out,HD.out,List.append_assoc]),by go_num,qd hs7,by simpa[dz]using dD,qd Xc,qd (by simpa using Xb),qd (by simpa using Xd),by simp;omega⟩
    case measure=>simp[intOf];omega
   ·have hl1:¬(lf:Int)<1:=by omega
    have hne:¬left a2 id=0:=by rw[←iX.out];omega
    have eH:=qd hne;have hs5:=HS.out;rw[JC.out]at hs5;have SA:=qd (show bA W0 E P At s w F0 w5 b2 (gY left a2 (aN.take (i+1))++aN.drop (i+1)) a2 F2 x2 from by rw[dU.out.1,if_neg hne,List.append_assoc];exact hs5);clear hs5 hne HS;go_wp2;go_roundw
    case rel=>exact⟨i+1,D,by omega,qd (by rw[dU.out.2,if_neg eH.out,List.append_nil];exact HD.out),by go_num,SA,HO.out,rE,Ca,Mx,by omega⟩
    case measure=>simp[intOf];omega
  ·obtain rfl:i=aN.length:=by omega
   have hlt':¬(aN.length:Int)<(aN.length:Int):=by omega
   have ht:aN.take aN.length=aN:=List.take_length;have hd:aN.drop aN.length=[]:=List.drop_length;rw[ht,hd,List.append_nil]at HS;rw[ht]at HD;clear ht hd;rw[HD.out]at HO Ca⊢;go_wp2;go_ret;have BU:=HO.out;have TT:=Ca.out;rw[List.length_append]at BU TT;exact⟨A,vc,e1,aN,a,a2,rfl,BU,WY.out,WZ.out,F2,x2,⟨b2,HS.out⟩,Ms.out.mono (by omega) (by omega),TT⟩
theorem Ho {W0:World}{E:Nat→Addr}{P:MP}{α:Type}{jt:Nat→TypeId}{ja:Nat→Addr}{At:World→List Nat→α→Prop}{can:α→Nat→Prop}{left:α→Nat→Nat}{Stp:α→Nat→α→Prop}(HP:iG W0 E P jt ja At can left Stp)(s:SP)(F:List Nat)(K:Nat)(hK:1≤K∧K≤64)(hk:s.k=(K:Int))(b:Int)(ids:List Nat)(a:α)(x:bI)(own:Nat)(kK:own≤1000)(hin:own∈ids)(hval:∀id,s.val id= .iface (jt id) (.pointer (some (ja id))))(hcan:∀id∈ids,can a id∧id≤1000)(w:World)(h:bA W0 E P At s w F w b ids a F x):
  Calls Tryz.prog 137 #[eu s.sb,lT P,nI own] w fun e w'=>∃A cc e1 bQ a1 a2 F' x' b',e= .returned (.slice A (e1++fO left a2 bQ).length cc)∧w'.ownsRow w.heap.size 3 1 (.slice A (e1++fO left a2 bQ).length cc) (e1++fO left a2 bQ).length (dz (e1++fO left a2 bQ))∧ug left Stp ids own (8*K) a a1∧rC left Stp K ids a1 e1 bQ a2∧bA W0 E P At s w F w' b' (gY left a2 bQ) a2 F' x'∧dI x x' 0 (9*K)∧mO P s F' (.slice A (e1++fO left a2 bQ).length cc):=by
 have hval:=qd hval;have hlen:=qd h.aC.many;have H0:=qd h;have En:=qd hcan;have y9:=qd hin;obtain⟨F0,Jy⟩:∃F0,F0=F:=⟨_,rfl⟩
 have hk':1≤s.k∧s.k≤64:=by omega
 have hk8:0≤8*s.k∧8*s.k≤1000:=by omega
 have TN:8*s.k=((8*K:Nat):Int):=by rw[hk];omega
 have HK8:=qd TN;have F7:=qd hk;have DK:=qd (wo own kK);unfold eu lT;clear h hcan hin TN hk;rw[←Jy]at H0⊢;clear Jy;go_in;have HS:=H0;have iW:=qd (L9 s.k 1 1 (by omega) w);unfold jS at iW;obtain⟨sp,hsb⟩:=HS.out.aC.blk;have k0:=aj.cell hsb 0;have k1:=aj.cell hsb 1;have k2:=aj.cell hsb 2;have k4:=aj.cell hsb 4;simp only[gl]at k0 k1 k2 k4;clear hsb;go_wp2_with fail;refine iW.out.mono ?_;rintro x w1 ⟨rfl,hb⟩;replace HS:=qd (HS.out.below HP hb);clear k0 k1 k2 k4 hb iW;have fM:=qd (zQ HP s F0 F0 b (8*s.k) hk8 ids a x w1 HS.out);unfold eu at fM;go_wp2_with fail;refine fM.out.mono ?_;rintro z w2 ⟨rfl,hs⟩;clear HS fM;have HS:=qd (show bA W0 E P At s w F0 w2 ((8*K:Nat):Int) ids a F0 x from by rw[←HK8.out];exact hs);clear hs H0;obtain⟨sp,hsb⟩:=HS.out.aC.blk;have k0:=aj.cell hsb 0;have k1:=aj.cell hsb 1;have k2:=aj.cell hsb 2;have k4:=aj.cell hsb 4;simp only[gl]at k0 k1 k2 k4;clear hsb;have mE:=qd HS.out.aC.map;have HV:=qd (show je s.val ids (own:Int)=some (.iface (jt own) (.pointer (some (ja own))))from by rw[wm y9.out,hval.out]);go_wp2_with (at_lookup;refine Ay rfl _ _ rfl rfl mE.out _ rfl DK.out ?_;rw[HV.out]);clear k0 k1 k2 k4 mE HV
 have h8K:8*K≤512:=by omega
 go_loopw [] (fun wr=>∃(n c:Nat) (a1:α) (F1:List Nat) (x1:bI),Hid (n+c=8*K)∧Hid (bA W0 E P At s w F0 wr (c:Int) ids a1 F1 x1)∧Hid (Hg Stp own n a a1)∧Hid (dI x x1 0 n)) (fun wr=>CJ s.sb s.qb wr)
 case atStart=>exact⟨0,8*K,a,F0,x,qd (by omega),HS,qd rfl,qd (dI.refl x)⟩
 case round=>
  clear HS;obtain⟨n,c,a1,F1,x1,HN,HS,kJ,Er⟩:=hrel
  have hc8:c≤512:=by have:=HN.out;omega
  have hn8:n≤8*K:=by have:=HN.out;omega
  have FZ:=qd (Ep HP kJ.out (En.out own y9.out).1);have HMe:=qd HS.out.aC.meas;have QZ:=qd (WX HP s F0 F1 c (by omega) ids a1 x1 own FZ.out wr HS.out);unfold eu lT at QZ;go_wp2_with fail;refine QZ.out.mono ?_;rintro e V (⟨rfl,a3,F3,x3,hc1,hst,hco,hs⟩|⟨rfl,hor,hs⟩)
  ·have j5:=qd hs;have ac6:=qd (show Hg Stp own (n+1) a a3 from⟨a1,kJ.out,hst⟩);have ac7:=qd (Er.out.trans hco);clear HS hs hst hco QZ;go_wp2;go_roundw
   case rel=>exact⟨n+1,c-1,a3,F3,x3,qd (by have:=HN.out;omega),j5,ac6,qd (ac7.out.mono (by omega) (by omega))⟩
   case measure=>rw[HMe.out,j5.out.aC.meas];omega
  ·replace HS:=qd hs;have WY:=qd (show ug left Stp ids own (8*K) a a1 from .inr ⟨y9.out,n,kJ.out,hn8,by have:=HN.out;rcases hor with h1|h1;exact .inr h1;left;omega⟩);have F9:∀id∈ids,can a1 id∧id≤1000:=fun id hid=>⟨Ep HP kJ.out (En.out id hid).1,(En.out id hid).2⟩;clear hs hor QZ kJ HMe HN FZ;have zR:=qd F9;clear F9;have iW:=qd (FR s.k 1 1 (by omega) V);unfold jS at iW;obtain⟨sp,hsb⟩:=HS.out.aC.blk;have k0:=aj.cell hsb 0;have k1:=aj.cell hsb 1;have k2:=aj.cell hsb 2;have k4:=aj.cell hsb 4;simp only[gl]at k0 k1 k2 k4;clear hsb;go_wp2_with fail;refine iW.out.mono ?_;rintro x w1 ⟨rfl,hb⟩;replace HS:=qd (HS.out.below HP hb);clear k0 k1 k2 k4 hb iW;have fM:=qd (zQ HP s F0 F1 (c:Int) s.k (by omega) ids a1 x1 w1 HS.out);unfold eu at fM;go_wp2_with fail;refine fM.out.mono ?_;rintro x w2 ⟨rfl,hs⟩;clear HS fM;have HS:=qd (show bA W0 E P At s w F0 w2 ((K:Nat):Int) ids a1 F1 x1 from by rw[←F7.out];exact hs);clear hs;have DL:=qd (BS HP s F1 K (by omega) ids a1 x1 hval.out zR.out w2 HS.out.again);unfold eu lT at DL;go_wp2_with fail;refine DL.out.mono ?_;rintro x w3 ⟨A9,c9,e1,aN,a2,F2,x2,b2,rfl,BU,hoth,hs3,BX,Mr⟩;have j5:=qd (HS.out.chain hs3);have Es:=qd j5.out.size;have Ms:=qd (Er.out.trans BX);have WZ:=qd hoth;have BZ:=qd (pE BU HS.out.size);have Mt:=qd Mr;have QY:=qd (fun i (hi:i∈aN)=>And.intro (Pb HP hoth (zR.out i (by rw[qz hoth];simp[hi])).1) (zR.out i (by rw[qz hoth];simp[hi])).2)
   have hel:e1.length+aN.length=ids.length:=by rw[qz hoth,List.length_append]
   clear HS BU hoth hs3 BX Mr DL;have j6:=qd (Jt s.sb s.qb s.rb s.jb s.k b2 s.val aN w3 j5.out.aC);unfold eu at j6;go_wp2_with fail;refine j6.out.mono ?_;rintro x w4 ⟨AI,cI,rfl,Mv,hb4⟩;have Ga:∀g,(Value.slice AI aN.length cI).ownBlock=some g→w3.heap.size≤g:=fun g hg=>(Mv.lt g hg).1
   have TP:∀g,(Value.slice A9 e1.length c9).ownBlock=some g→(Value.slice AI aN.length cI).ownBlock≠some g:=fun g hg he=>by
    have h1:=(BZ.out.lt g hg).2;have h2:=Ga g he;omega
   have Mw:mO P s F2 (.slice AI aN.length cI):=fun g hg hq=>by
    have h1:=j5.out.fA HP g hq;have h2:=Ga g hg;omega
   replace j5:=qd (j5.out.below HP hb4);replace BZ:=qB hb4 BZ;have HRI:=qd Mw;have rE:=qd (pE Mv (show w.heap.size≤w3.heap.size from Es.out));have TQ:=qd TP;have HBI:=qd Ga;have YB:=hb4.size;have ac5:=j5.out.size;have hzb:w.heap.size≤w3.heap.size:=Es.out;clear Mv hb4 Mw TP Ga j6;go_wp2;clear Es;go_loopw [9,11,46] (fun v9 _ v46 wr=>∃(i:Nat) (D:List Nat),i≤aN.length∧Hid (D=e1++fO left a2 (aN.take i))∧v46=nI i∧Hid (bA W0 E P At s w F0 wr b2 (gY left a2 (aN.take i)++aN.drop i) a2 F2 x2)∧wr.ownsRow w.heap.size 3 1 v9 D.length (dz D)∧Hid (wr.ownsRow w.heap.size 3 1 (.slice AI aN.length cI) aN.length (dz aN))∧Hid (mO P s F2 v9)∧Hid (∀g,v9.ownBlock=some g→(Value.slice AI aN.length cI).ownBlock≠some g)∧D.length≤e1.length+i) (fun _ _ v46 _=>aN.length-(intOf v46).toNat)
   case atStart=>exact⟨0,e1,by omega,qd (by simp[fO]),rfl,by simpa[gY]using j5,BZ.out,rE,Mt,TQ,by omega⟩
   case round=>
    clear BZ j5 rE Mt TQ;obtain⟨i,D,hi,HD,rfl,HS,hO,rE,Ca,Mx,hdl⟩:=hrel;obtain⟨A,vc,rfl⟩:=bE hO;have HO:=qd hO;clear hO;by_cases hlt:i<aN.length
    ·have hlt':(i:Int)<(aN.length:Int):=by omega
     have hi0:(0:Int)≤(i:Int):=by omega
     have aaV:(i:Int)≤41:=by have:=hlen.out;omega
     obtain⟨id,hid⟩:∃id,aN[i]?=some id:=⟨_,List.getElem?_eq_getElem hlt⟩;obtain⟨g,TR,hge,hgl,hce,_⟩:=lQ rE.out hid;have lU:=QY.out id (List.mem_of_getElem? hid);have hl:=HP.uV HS.out.pool lU.1;have HJ:=qd (HP.Mh lU.1);obtain⟨Fl,wB⟩:∃Fl,Fl=jd (jt id):=⟨_,rfl⟩;rw[←wB]at hl;have Jz:=qd wB.symm;have HL:=qd hl;have DK:=qd (wo id lU.2);have mE:=qd HS.out.aC.map
     have hmem:id∈gY left a2 (aN.take i)++aN.drop i:=by rw[drop_cons hid];simp
     have HV:=qd (show je s.val (gY left a2 (aN.take i)++aN.drop i) (id:Int)=some (.iface (jt id) (.pointer (some (ja id))))from by rw[wm hmem,hval.out]);have hle:=HP.le HS.out.pool lU.1;have dU:=qd (JA (left:=left) (a:=a2) hid);have JC:=qd (drop_cons hid);have BA:=qd HS.out.aC.nd;have FZ:=qd lU;have Hl:=qd hmem;obtain⟨lf,hlf⟩:∃lf,lf=left a2 id:=⟨_,rfl⟩;rw[←hlf]at HL hle;have iX:=qd hlf;have HAI:=qd TR;obtain⟨DI,DJ⟩:=qy HS.out.aC;clear hl wB lU hlf hid hmem;subst TR;go_wp2_with (at_lookup;refine uT rfl _ _ rfl rfl mE.out _ rfl DK.out _ HV.out ?_);rw[qp HJ.out,Result.andThen_ok,qw HJ.out];rw[show jd (jt id)=Fl from Jz.out];rw[Oper.upon_enter];refine HL.out.mono ?_;rintro x w5 ⟨rfl,hb5⟩;replace HS:=qd (HS.out.below HP hb5);replace HO:=qB hb5 HO;replace rE:=qB hb5 rE;clear HL DI DJ hb5 Jz mE hce;rcases Nat.eq_zero_or_pos lf with h0|h1
     ·subst h0;have Ml:=qd (show left a2 id=0 from iX.out.symm);have HR:=qd (zP HP s F0 F2 b2 _ a2 x2 id Hl.out FZ.out.2 w5 HS.out);unfold eu at HR;simp only[Int.ofNat_zero]at*;go_wp2_with fail;refine HR.out.mono ?_;rintro x w6 ⟨rfl,hs6,nC⟩;have TS:=jl HO.out nC (fun g hg hq=>Ca.out g hg (by simp[hq]));have Et:=jl rE.out nC (fun g hg hq=>HRI.out g hg (by simp[hq]))
      have MB:bA W0 E P At s w F0 w6 b2 (gY left a2 (aN.take (i+1))++aN.drop (i+1)) a2 F2 x2:=by
       have hnd:=BA.out;rw[JC.out]at hs6 hnd;rw[JB (fun hh=>(List.nodup_append.1 hnd).2.2 id hh id (by simp) rfl)]at hs6;rw[dU.out.1,if_pos Ml.out,List.append_nil];exact hs6
      have HS6:=qd MB;have W9:=qd Et;have hz6:=hs6.size;have MC:∀g',(Value.slice (some ⟨g,0,none⟩) aN.length cI).ownBlock=some g'→g'<w6.heap.size:=fun g' hg'=>(Et.lt g' hg').2;have Xa:=qd MC;clear HS HO HR rE hs6 MB nC Et MC
      have aaT:D.length+1≤100:=by have:=hlen.out;omega
      go_wp2_with (at_builtin;refine jM rfl rfl wh TS rfl rfl rfl rfl rfl (by omega) (by omega) ?_;intro v4 w7 dD gM;obtain⟨A4,c4,rfl⟩:=bE dD);obtain⟨hs7,Xb⟩:=HS6.out.app HP TS (Nat.le_refl _) Ca.out gM
      have Xc:=W9.out.kept gM.lX (.inr (by
       intro he;have hee:∃g',(Value.slice (some ⟨g,0,none⟩) aN.length cI).ownBlock=some g':=⟨g,rfl⟩;obtain⟨g',hg'⟩:=hee
       exact Mx.out g' (by rw[←he];exact hg') hg'))
      have Xd:∀g',(Value.slice A4 (D.length+1) c4).ownBlock=some g'→(Value.slice (some ⟨g,0,none⟩) aN.length cI).ownBlock≠some g':=fun g' hg' he=>by
       rcases gM.at_ with h1|⟨g2,h1,h2⟩
       ·exact Mx.out g' (h1▸hg') he
       ·have:=Xa.out g' he;rw[h1]at hg'
        injection hg' with hg'
        omega
      go_roundw
      case rel=>exact⟨i+1,D++[id],by omega,qd (by rw[dU.out.2,if_pos Ml.out,HD.out,List.append_assoc]),by go_num,qd hs7,by simpa[dz]using dD,qd Xc,qd (by simpa using Xb),qd (by simpa using Xd),by simp;omega⟩
      case measure=>simp[intOf];omega
     ·have hl1:¬(lf:Int)<1:=by omega
      have hne:¬left a2 id=0:=by rw[←iX.out];omega
      have eH:=qd hne;have hs5:=HS.out;rw[JC.out]at hs5;have SA:=qd (show bA W0 E P At s w F0 w5 b2 (gY left a2 (aN.take (i+1))++aN.drop (i+1)) a2 F2 x2 from by rw[dU.out.1,if_neg hne,List.append_assoc];exact hs5);clear hs5 hne HS;go_wp2;go_roundw
      case rel=>exact⟨i+1,D,by omega,qd (by rw[dU.out.2,if_neg eH.out,List.append_nil];exact HD.out),by go_num,SA,HO.out,rE,Ca,Mx,by omega⟩
      case measure=>simp[intOf];omega
    ·obtain rfl:i=aN.length:=by omega
     have hlt':¬(aN.length:Int)<(aN.length:Int):=by omega
     have ht:aN.take aN.length=aN:=List.take_length;have hd:aN.drop aN.length=[]:=List.drop_length;rw[ht,hd,List.append_nil]at HS;rw[ht]at HD;clear ht hd;rw[HD.out]at HO Ca⊢;go_wp2;go_ret;have BU:=HO.out;have TT:=Ca.out;rw[List.length_append]at BU TT;exact⟨A,vc,e1,aN,a1,a2,rfl,BU,WY.out,WZ.out,F2,x2,⟨b2,HS.out⟩,Ms.out.mono (by omega) (by omega),TT⟩
end Go.Proofs.YtgkeameopnpinaaGreatDoor
