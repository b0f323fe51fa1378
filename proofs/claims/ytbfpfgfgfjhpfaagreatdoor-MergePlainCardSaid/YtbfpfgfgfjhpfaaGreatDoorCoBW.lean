/- A scheduler's others by its contract. -/
import Derived.Test.YtbfpfgfgfjhpfaaGreatDoorCoBU
import Derived.Test.YtbfpfgfgfjhpfaaGreatDoorPlA
import Derived.Test.YtbfpfgfgfjhpfaaGreatDoorSq
namespace Go.Proofs.YtbfpfgfgfjhpfaaGreatDoor
set_option maxRecDepth 100000
set_option maxHeartbeats 8000000
open Go.RowKit dP
section
variable {w : World} {jb qb rb sb : Nat} {b k : Int} {val : Nat → Value} {ids : List Nat}
def Ug (w:World)(p:Addr):Nat:=match w.cell? p with|some (.int _ n)=>n.toNat|_=>0
def EN (sb qb:Nat)(w:World):Nat:=Ug w ⟨sb,5,none⟩+Ug w ⟨qb,2,none⟩
theorem eH.meas {c:Nat}(h:eH w sb qb rb jb k (c:Int) val ids):EN sb qb w=c+ids.length:=by
 obtain⟨s,h1⟩:=h.blk;obtain⟨ring,first,h2⟩:=h.DV;have c5:=aj.cell h1 5;have c2:=h2.blk.cell 2;simp only[gl]at c5 c2;unfold EN Ug;rw[c5,c2];simp
theorem sF (h:eH w sb qb rb jb k b val ids):w.cell? ⟨sb,3,none⟩=some (.pointer (some ⟨qb,0,none⟩))∧w.cell? ⟨sb,4,none⟩=some (.map (some jb)):=by
 obtain⟨s,h1⟩:=h.blk;exact⟨aj.cell h1 3,aj.cell h1 4⟩
theorem eH.head {id:Nat}(h:eH w sb qb rb jb k b val (id::ids)):Calls Tryz.prog 196 #[.pointer (some ⟨qb,0,none⟩)] w fun e w'=>e= .returned (.tuple #[.int .i64 (id:Int),.bool true])∧w.drew=w':=by
 obtain⟨ring,first,h2⟩:=h.DV
 exact TV qb rb ring first id ids w h2
theorem eH.abB (h:eH w sb qb rb jb k b val []):Calls Tryz.prog 196 #[.pointer (some ⟨qb,0,none⟩)] w fun e w'=>e= .returned (.tuple #[.int .i64 0,.bool false])∧w=w':=by
 obtain⟨ring,first,h2⟩:=h.DV
 exact ME qb rb ring first [] w h2
theorem eH.balance (h:eH w sb qb rb jb k b val ids):Calls Tryz.prog 197 #[.pointer (some ⟨sb,5,none⟩)] w fun e w'=>e= .returned (.int .i64 b)∧w=w':=by
 obtain⟨s,h1⟩:=h.blk;exact JQ sb b w h1
theorem D7 {W0:World}{E:Nat→Addr}{P:MP}{α:Type}{jt:Nat→TypeId}{ja:Nat→Addr}{At:World→List Nat→α→Prop}{can:α→Nat→Prop}{left:α→Nat→Nat}{Stp:α→Nat→α→Prop}(HP:jd W0 E P jt ja At can left Stp)(s:SP)(F:List Nat)(c0:Nat)(hc:c0≤64)(ids:List Nat)(a:α)(x:bP)(hval:∀id,s.val id= .iface (jt id) (.pointer (some (ja id))))(hcan:∀id∈ids,can a id∧id≤1000)(w:World)(h:bD W0 E P At s w F w (c0:Int) ids a F x):
  Calls Tryz.prog 156 #[fD s.sb,ny P] w fun e w'=>∃A cc ended aO a' F' x' b',e= .returned (.slice A ended.length cc)∧w'.ownsRow w.heap.size 3 1 (.slice A ended.length cc) ended.length (dH ended)∧tu left Stp c0 ids a ended aO a'∧bD W0 E P At s w F w' b' aO a' F' x'∧d9 x x' 0 c0∧nV P s F' (.slice A ended.length cc):=by
 have hval:=qd hval;have hlen:=qd h.aB.many;have H0:=qd h;have Gz:=qd hcan;obtain⟨F0,CK⟩:∃F0,F0=F:=⟨_,rfl⟩;unfold fD ny;clear h hcan;rw[←CK]at H0⊢;clear CK;go_in;go_wp2;go_loopw [5,6,7] (fun v5 _ _ wr=>∃(c:Nat) (bT e1:List Nat) (a1:α) (F1:List Nat) (x1:bP) (u:Nat),Hid (bD W0 E P At s w F0 wr (c:Int) bT a1 F1 x1)∧wr.ownsRow w.heap.size 3 1 v5 e1.length (dH e1)∧Hid (∀e aO a',tu left Stp c bT a1 e aO a'→tu left Stp c0 ids a (e1++e) aO a')∧(u+c=c0∧e1.length+bT.length=ids.length)∧(∀id∈bT,can a1 id∧id≤1000)∧d9 x x1 0 u∧Hid (nV P s F1 v5)) (fun _ _ _ wr=>EN s.sb s.qb wr)
 case atStart=>exact⟨c0,ids,[],a,F0,x,0,H0,⟨rfl,.inl ⟨rfl,rfl⟩⟩,qd (fun _ _ _ h=>h),⟨by omega,by simp⟩,Gz.out,d9.refl x,qd (fun g hg=>by cases hg)⟩
 case round=>
  obtain⟨c,bT,e1,a1,F1,x1,u,HS,hO,hK,hu,hcan,hCo,RI⟩:=hrel;obtain⟨A,vc,rfl⟩:=aU hO;have hE1:=HS.out.aB.many;have HM0:=qd HS.out.aB.meas;obtain⟨hu,hE2⟩:=hu;rcases bT with _|⟨id,bT⟩
  ·have HH:=qd HS.out.aB.abB;have HF:=qd (hK.out _ _ _ (tu.nil c a1));have HO:=qd hO;have HC:=qd hCo
   have hu2:u≤c0:=by omega
   obtain⟨FN,FP⟩:=sF HS.out.aB;clear hO hCo hcan;go_wp2_with fail;refine HH.out.mono ?_;rintro x w1 ⟨rfl,rfl⟩;go_wp2;go_ret;exact⟨A,vc,e1,[],a1,F1,x1,_,rfl,HO.out,by simpa using HF.out,HS.out,HC.out.mono (Nat.le_refl _) hu2,RI.out⟩
  ·have HH:=qd HS.out.aB.head;obtain⟨FN,FP⟩:=sF HS.out.aB;have HO:=qd hO;have HC:=qd hCo;have Uh:=qd hcan;have hlo:=hO.lt;clear hO hCo hcan;go_wp2_with fail;refine HH.out.mono ?_;rintro x w1 ⟨rfl,hdr⟩;have hb1:Below wr.heap.size wr w1:=hdr▸(Below.refl _ _).drew;clear hdr;replace HS:=qd (HS.out.below HP hb1);replace HO:=qB hb1 HO;clear FN FP HH;obtain⟨FN,FP⟩:=sF HS.out.aB;have HB:=qd HS.out.aB.balance;go_wp2_with fail;refine HB.out.mono ?_;rintro x w2 ⟨rfl,rfl⟩;rcases c with _|c
   ·have HF:=qd (hK.out _ _ _ (tu.broke (id::bT) a1))
    have hu2:u≤c0:=by omega
    clear hK HB;simp only[Int.ofNat_zero]at*;go_wp2;go_ret;exact⟨A,vc,e1,_,a1,F1,x1,_,rfl,HO.out,by simpa using HF.out,HS.out,HC.out.mono (Nat.le_refl _) hu2,RI.out⟩
   ·have hc0:¬((c+1:Nat):Int)=0:=by omega
    have nA:=Uh.out id (by simp);have hl:=HP.BQ HS.out.pool nA.1;have HJ:=qd (HP.OP nA.1);obtain⟨Fl,yx⟩:∃Fl,Fl=jK (jt id):=⟨_,rfl⟩;rw[←yx]at hl;have Lr:=qd yx.symm;have HL:=qd hl;have FQ:=qd (yu id nA.2);have ow:=qd HS.out.aB.map;have HV:=qd (show jL s.val (id::bT) (id:Int)=some (.iface (jt id) (.pointer (some (ja id))))from by rw[yt (by simp),hval.out]);have hle:=HP.le HS.out.pool nA.1;have I7:=qd nA;obtain⟨lf,hlf⟩:∃lf,lf=left a1 id:=⟨_,rfl⟩;rw[←hlf]at HL hle;have jC:=qd hlf;clear hl yx nA HB hlf;go_wp2_with (at_lookup;refine wV rfl _ _ rfl rfl ow.out _ rfl FQ.out _ HV.out ?_);rw[sj HJ.out,Result.andThen_ok,sD HJ.out];rw[show jK (jt id)=Fl from Lr.out];rw[Oper.upon_enter];refine HL.out.mono ?_;rintro x w3 ⟨rfl,hb3⟩;replace HS:=qd (HS.out.below HP hb3);replace HO:=qB hb3 HO;replace ow:=qd HS.out.aB.map;have ael:=HS.out.size;clear HL FN FP hb3 Lr;obtain⟨FN,FP⟩:=sF HS.out.aB;rcases Nat.eq_zero_or_pos lf with h0|h1
    ·subst h0;have AP:=qd (show left a1 id=0 from jC.out.symm);have HR:=qd (BR HP s F0 F1 ((c+1:Nat):Int) (id::bT) a1 x1 id (by simp) I7.out.2 w3 HS.out);simp only[List.erase_cons_head]at HR;simp only[Int.ofNat_zero]at*;go_wp2_with fail;refine HR.out.mono ?_;rintro x w4 ⟨rfl,hs4,kS⟩;have hO4:=jX HO.out kS (fun g hg hq=>RI.out g hg (by simp[hq]));have hz4:=kS.size;clear kS HS HO HR FN FP ow;have aep:=hs4.size;have HS4:=qd hs4;clear hs4
     have acM:e1.length+1≤100:=by have:=hlen.out;omega
     go_wp2_with (at_builtin;refine jF rfl rfl yj hO4 rfl rfl rfl rfl rfl (by omega) (by omega) ?_;intro v4 w5 dM iI;obtain⟨A4,c4,rfl⟩:=aU dM);obtain⟨hs5,aey⟩:=HS4.out.app HP hO4 (Nat.le_refl _) RI.out iI;go_roundw
     case rel=>exact⟨c+1,bT,e1++[id],a1,F1,x1,u,qd hs5,by simpa[dH]using dM,qd (fun e aO a' hh=>by rw[List.append_assoc];exact hK.out _ _ _ (.ended AP.out hh)),⟨by omega,by simp at hE2⊢;omega⟩,fun i hi=>Uh.out i (by simp[hi]),HC.out,qd (by simpa using aey)⟩
     case measure=>
      rw[hs5.aB.meas,HM0.out];simp
    ·have hl1:¬(lf:Int)<1:=by omega
     have jY:=qd (OQ HP s F0 F1 c (by omega) (id::bT) a1 x1 id I7.out.1 (by rw[←jC.out];exact h1) w3 HS.out);unfold ny at jY;go_wp2_with (at_lookup;refine wV rfl _ _ rfl rfl ow.out _ rfl FQ.out _ HV.out ?_);refine jY.out.mono ?_;rintro x w4 ⟨rfl,a2,F2,x2,hst,hco,hs4,hF2,kS⟩;have hO4:=jX HO.out kS RI.out;have acN:=RI.out.step HO.out hF2;have GA:=qd (And.intro hs4 (And.intro hO4 (And.intro acN (And.intro hst hco))));have hz4:=kS.size;clear hs4 hO4 acN hst hco kS hF2;go_wp2;go_roundw
     case rel=>exact⟨c,id::bT,e1,a2,F2,x2,u+1,qd GA.out.1,GA.out.2.1,qd (fun e aO a' hh=>hK.out _ _ _ (.step (by rw[←jC.out];exact h1) GA.out.2.2.2.1 hh)),⟨by omega,by omega⟩,fun i hi=>⟨HP.jw GA.out.2.2.2.1 (Uh.out i hi).1,(Uh.out i hi).2⟩,(HC.out.trans GA.out.2.2.2.2).mono (by omega) (by omega),qd GA.out.2.2.1⟩
     case measure=>
      rw[GA.out.1.aB.meas,HM0.out];omega
end
section
variable {c i id j : Nat} {e aO : List Nat}
def JR {α:Type}(Stp:α→Nat→α→Prop)(id:Nat):Nat→α→α→Prop
 |0,a,a'=>a=a'
 |n+1,a,a'=>∃b,JR Stp id n a b∧Stp b id a'
def vN {α:Type}(left:α→Nat→Nat)(Stp:α→Nat→α→Prop)(ids:List Nat)(own n:Nat)(a a':α):Prop:=
 (own∉ids∧a'=a)∨(own∈ids∧∃m,JR Stp own m a a'∧m≤n∧(m=n∨left a' own=0))
def gP {α:Type}(left:α→Nat→Nat)(a:α)(ids:List Nat):List Nat:=ids.filter fun id=>left a id==0
def iQ {α:Type}(left:α→Nat→Nat)(a:α)(ids:List Nat):List Nat:=ids.filter fun id=>left a id !=0
theorem GD {W0:World}{E:Nat→Addr}{P:MP}{α:Type}{jt:Nat→TypeId}{ja:Nat→Addr}{At:World→List Nat→α→Prop}{can:α→Nat→Prop}{left:α→Nat→Nat}{Stp:α→Nat→α→Prop}(HP:jd W0 E P jt ja At can left Stp):∀{n:Nat} {a a':α},JR Stp id n a a'→can a j→can a' j
 |0,_,_,h,hc=>h▸hc
 |_+1,_,_,⟨_,h1,h2⟩,hc=>HP.jw h2 (GD HP h1 hc)
theorem RJ {W0:World}{E:Nat→Addr}{P:MP}{α:Type}{jt:Nat→TypeId}{ja:Nat→Addr}{At:World→List Nat→α→Prop}{can:α→Nat→Prop}{left:α→Nat→Nat}{Stp:α→Nat→α→Prop}(HP:jd W0 E P jt ja At can left Stp){ids:List Nat}{a a':α}(h:tu left Stp c ids a e aO a')(hc:can a j):can a' j:=by
 induction h with
 |nil=>exact hc
 |broke=>exact hc
 |ended _ _ ih=>exact ih hc
 |step _ hs _ ih=>exact ih (HP.jw hs hc)
theorem sG {α:Type}{left:α→Nat→Nat}{Stp:α→Nat→α→Prop}{ids:List Nat}{a a':α}(h:tu left Stp c ids a e aO a'):ids=e++aO:=by
 induction h with
 |nil=>rfl
 |broke=>rfl
 |ended _ _ ih=>rw[ih];rfl
 |step _ _ _ ih=>exact ih
theorem Zv {W0 w0:World}{E:Nat→Addr}{P:MP}{α:Type}{jt:Nat→TypeId}{ja:Nat→Addr}{At:World→List Nat→α→Prop}{can:α→Nat→Prop}{left:α→Nat→Nat}{Stp:α→Nat→α→Prop}(HP:jd W0 E P jt ja At can left Stp)(s:SP)(F0 F:List Nat)(b:Nat)(hb:b≤1000)(ids:List Nat)(a:α)(x:bP)(id:Nat)(hc:can a id)(w:World)(h:bD W0 E P At s w0 F0 w (b:Int) ids a F x):
  Calls Tryz.prog 154 #[fD s.sb,ny P,.iface (jt id) (.pointer (some (ja id)))] w fun e w'=>(e= .returned (.bool true)∧∃a' F' x',1≤b∧Stp a id a'∧d9 x x' 0 1∧bD W0 E P At s w0 F0 w' ((b-1:Nat):Int) ids a' F' x')∨(e= .returned (.bool false)∧(left a id=0∨b=0)∧bD W0 E P At s w0 F0 w' (b:Int) ids a F x):=by
 rcases Nat.eq_zero_or_pos (left a id)with h0|h1
 ·exact(step_done HP s F0 F b ids a x id hc h0 w h).mono fun e w' ⟨h1,h2⟩=> .inr ⟨h1,.inl h0,h.below HP h2⟩
 ·rcases b with _|b
  ·exact(Uc HP s F0 F ids a x id hc h1 w h).mono fun e w' ⟨h1,h2⟩=> .inr ⟨h1,.inr rfl,h.below HP h2⟩
  ·exact(OQ HP s F0 F b (by omega) ids a x id hc h1 w h).mono fun e w' ⟨h1,a',F',x',h2,h3,h4,_⟩=> .inl ⟨h1,a',F',x',by omega,h2,h3,h4⟩
theorem Ls {α:Type}{left:α→Nat→Nat}{a:α}{ids:List Nat}(h:ids[i]?=some id):iQ left a (ids.take (i+1))=iQ left a (ids.take i)++(if left a id=0 then []else [id])∧gP left a (ids.take (i+1))=gP left a (ids.take i)++(if left a id=0 then [id]else []):=by
 have ht:ids.take (i+1)=ids.take i++[id]:=by rw[List.take_add_one,h];rfl
 unfold iQ gP;rw[ht,List.filter_append,List.filter_append]
 by_cases h0:left a id=0<;>simp[h0]
theorem drop_cons {ids:List Nat}(h:ids[i]?=some id):ids.drop i=id::ids.drop (i+1):=by
 obtain⟨hl,rfl⟩:=List.getElem?_eq_some_iff.1 h;exact List.drop_eq_getElem_cons hl
theorem Lu {l r:List Nat}(h:id∉l):(l++id::r).erase id=l++r:=by
 rw[List.erase_append_right _ h,List.erase_cons_head]
section
variable {W0 w0 w w2 : World} {E : Nat → Addr} {P : MP} {α : Type} {jt : Nat → TypeId} {ja : Nat → Addr} {At : World → List Nat → α → Prop} {can : α → Nat → Prop} {left : α → Nat → Nat} {Stp : α → Nat → α → Prop} {s : SP} {F0 F F2 : List Nat} {b b2 : Int} {ids aL : List Nat} {a a2 : α} {x x2 : bP}
theorem bD.again (h:bD W0 E P At s w0 F0 w b ids a F x):bD W0 E P At s w F w b ids a F x:=⟨h.aB,h.pool,h.met,h.env,h.apart,h.uw,h.env.size,fun _ hq=> .inl hq,Mod.refl _ _⟩
theorem bD.chain (h:bD W0 E P At s w0 F0 w b ids a F x)(k:bD W0 E P At s w F w2 b2 aL a2 F2 x2):bD W0 E P At s w0 F0 w2 b2 aL a2 F2 x2:=
 ⟨k.aB,k.pool,k.met,k.env,k.apart,k.uw,h.qH,fun q hq=>(k.sub q hq).elim (h.sub q) (fun hh=> .inr (Nat.le_trans h.size hh)),h.mod.trans k.mod (fun _ hq _=>hq) (fun q hq hl=>by
  rcases List.mem_cons.1 hq with h1|h1
  ·simp[h1]
  ·rcases List.mem_append.1 h1 with h2|h2
   ·simp[h2]
   ·rcases h.sub q h2 with h3|h3
    ·simp[h3]
    ·omega)⟩
end
theorem I8 {W0:World}{E:Nat→Addr}{P:MP}{α:Type}{jt:Nat→TypeId}{ja:Nat→Addr}{At:World→List Nat→α→Prop}{can:α→Nat→Prop}{left:α→Nat→Nat}{Stp:α→Nat→α→Prop}(HP:jd W0 E P jt ja At can left Stp)(s:SP)(F:List Nat)(K:Nat)(hK:1≤K∧K≤64)(hk:s.k=(K:Int))(b:Int)(ids:List Nat)(a:α)(x:bP)(own:Nat)(lV:own≤1000)(hin:own∉ids)(hval:∀id,s.val id= .iface (jt id) (.pointer (some (ja id))))(hcan:∀id∈ids,can a id∧id≤1000)(w:World)(h:bD W0 E P At s w F w b ids a F x):
  Calls Tryz.prog 110 #[fD s.sb,ny P,.int .i64 (own:Int)] w fun e w'=>∃A cc e1 bT a1 a2 F' x' b',e= .returned (.slice A (e1++gP left a2 bT).length cc)∧w'.ownsRow w.heap.size 3 1 (.slice A (e1++gP left a2 bT).length cc) (e1++gP left a2 bT).length (dH (e1++gP left a2 bT))∧vN left Stp ids own (8*K) a a1∧tu left Stp K ids a1 e1 bT a2∧bD W0 E P At s w F w' b' (iQ left a2 bT) a2 F' x'∧d9 x x' 0 (9*K)∧nV P s F' (.slice A (e1++gP left a2 bT).length cc):=by
 have hval:=qd hval;have hlen:=qd h.aB.many;have H0:=qd h;have Gz:=qd hcan;have AQ:=qd hin;obtain⟨F0,CK⟩:∃F0,F0=F:=⟨_,rfl⟩
 have hk':1≤s.k∧s.k≤64:=by omega
 have hk8:0≤8*s.k∧8*s.k≤1000:=by omega
 have WC:8*s.k=((8*K:Nat):Int):=by rw[hk];omega
 have HK8:=qd WC;have I9:=qd hk;have FQ:=qd (yu own lV);unfold fD ny;clear h hcan hin WC hk;rw[←CK]at H0⊢;clear CK;go_in;have HS:=H0;have jO:=qd (OH s.k 1 1 (by omega) w);unfold kJ at jO;obtain⟨sp,hsb⟩:=HS.out.aB.blk;have k0:=aj.cell hsb 0;have k1:=aj.cell hsb 1;have k2:=aj.cell hsb 2;have k4:=aj.cell hsb 4;simp only[gl]at k0 k1 k2 k4;clear hsb;go_wp2_with fail;refine jO.out.mono ?_;rintro x w1 ⟨rfl,hb⟩;replace HS:=qd (HS.out.below HP hb);clear k0 k1 k2 k4 hb jO;have jT:=qd (BS HP s F0 F0 b (8*s.k) hk8 ids a x w1 HS.out);unfold fD at jT;go_wp2_with fail;refine jT.out.mono ?_;rintro z w2 ⟨rfl,hs⟩;clear HS jT;have HS:=qd (show bD W0 E P At s w F0 w2 ((8*K:Nat):Int) ids a F0 x from by rw[←HK8.out];exact hs);clear hs H0;obtain⟨sp,hsb⟩:=HS.out.aB.blk;have k0:=aj.cell hsb 0;have k1:=aj.cell hsb 1;have k2:=aj.cell hsb 2;have k4:=aj.cell hsb 4;simp only[gl]at k0 k1 k2 k4;clear hsb;have ow:=qd HS.out.aB.map;have HV:=qd (show jL s.val ids (own:Int)=none from OM AQ.out);go_wp2_with (at_lookup;refine CG rfl _ _ rfl rfl ow.out _ rfl FQ.out ?_;rw[HV.out]);clear k0 k1 k2 k4 ow;have Zw:=qd (show vN left Stp ids own (8*K) a a from .inl ⟨AQ.out,rfl⟩);have Ja:=Gz.out;have GH:=qd (d9.refl x);have BU:=qd Ja;clear Ja;have jO:=qd (IV s.k 1 1 (by omega) w2);unfold kJ at jO;obtain⟨sp,hsb⟩:=HS.out.aB.blk;have k0:=aj.cell hsb 0;have k1:=aj.cell hsb 1;have k2:=aj.cell hsb 2;have k4:=aj.cell hsb 4;simp only[gl]at k0 k1 k2 k4;clear hsb;go_wp2_with fail;refine jO.out.mono ?_;rintro x w1 ⟨rfl,hb⟩
 replace HS:=qd (HS.out.below HP hb);clear k0 k1 k2 k4 hb jO;have jT:=qd (BS HP s F0 F0 ((8*K:Nat):Int) s.k (by omega) ids a x w1 HS.out);unfold fD at jT;go_wp2_with fail;refine jT.out.mono ?_;rintro x w2 ⟨rfl,hs⟩;clear HS jT;have HS:=qd (show bD W0 E P At s w F0 w2 ((K:Nat):Int) ids a F0 x from by rw[←I9.out];exact hs);clear hs;have FR:=qd (D7 HP s F0 K (by omega) ids a x hval.out BU.out w2 HS.out.again);unfold fD ny at FR;go_wp2_with fail;refine FR.out.mono ?_;rintro x w3 ⟨A9,c9,e1,aL,a2,F2,x2,b2,rfl,D8,hoth,hs3,D9,OV⟩;have kZ:=qd (HS.out.chain hs3);have GI:=qd kZ.out.size;have OW:=qd (GH.out.trans D9);have Zx:=qd hoth;have Ea:=qd (ru D8 HS.out.size);have OX:=qd OV;have Ui:=qd (fun i (hi:i∈aL)=>And.intro (RJ HP hoth (BU.out i (by rw[sG hoth];simp[hi])).1) (BU.out i (by rw[sG hoth];simp[hi])).2)
 have hel:e1.length+aL.length=ids.length:=by rw[sG hoth,List.length_append]
 clear HS D8 hoth hs3 D9 OV FR;have oz:=qd (Lj s.sb s.qb s.rb s.jb s.k b2 s.val aL w3 kZ.out.aB);unfold fD at oz;go_wp2_with fail;refine oz.out.mono ?_;rintro x w4 ⟨AI,cI,rfl,OY,hb4⟩;have Jb:∀g,(Value.slice AI aL.length cI).ownBlock=some g→w3.heap.size≤g:=fun g hg=>(OY.lt g hg).1
 have WE:∀g,(Value.slice A9 e1.length c9).ownBlock=some g→(Value.slice AI aL.length cI).ownBlock≠some g:=fun g hg he=>by
  have h1:=(Ea.out.lt g hg).2;have h2:=Jb g he;omega
 have OZ:nV P s F2 (.slice AI aL.length cI):=fun g hg hq=>by
  have h1:=kZ.out.fH HP g hq;have h2:=Jb g hg;omega
 replace kZ:=qd (kZ.out.below HP hb4);replace Ea:=qB hb4 Ea;have HRI:=qd OZ;have tF:=qd (ru OY (show w.heap.size≤w3.heap.size from GI.out));have WG:=qd WE;have HBI:=qd Jb;have hz4:=hb4.size;have aez:=kZ.out.size;have hzb:w.heap.size≤w3.heap.size:=GI.out;clear OY hb4 OZ WE Jb oz;go_wp2;clear GI;go_loopw [9,11,46] (fun v9 _ v46 wr=>∃(i:Nat) (D:List Nat),i≤aL.length∧Hid (D=e1++gP left a2 (aL.take i))∧v46= .int .i64 (i:Int)∧Hid (bD W0 E P At s w F0 wr b2 (iQ left a2 (aL.take i)++aL.drop i) a2 F2 x2)∧wr.ownsRow w.heap.size 3 1 v9 D.length (dH D)∧Hid (wr.ownsRow w.heap.size 3 1 (.slice AI aL.length cI) aL.length (dH aL))∧Hid (nV P s F2 v9)∧Hid (∀g,v9.ownBlock=some g→(Value.slice AI aL.length cI).ownBlock≠some g)∧D.length≤e1.length+i) (fun _ _ v46 _=>aL.length-(intOf v46).toNat)
 case atStart=>exact⟨0,e1,by omega,qd (by simp[gP]),rfl,by simpa[iQ]using kZ,Ea.out,tF,OX,WG,by omega⟩
 case round=>
  clear Ea kZ tF OX WG;obtain⟨i,D,hi,HD,rfl,HS,hO,tF,Eb,O0,hdl⟩:=hrel;obtain⟨A,vc,rfl⟩:=aU hO;have HO:=qd hO;clear hO;by_cases hlt:i<aL.length
  ·have hlt':(i:Int)<(aL.length:Int):=by omega
   have hi0:(0:Int)≤(i:Int):=by omega
   have acO:(i:Int)≤41:=by have:=hlen.out;omega
   obtain⟨id,hid⟩:∃id,aL[i]?=some id:=⟨_,List.getElem?_eq_getElem hlt⟩;obtain⟨g,WH,hge,hgl,hce,_⟩:=nk tF.out hid;have nA:=Ui.out id (List.mem_of_getElem? hid);have hl:=HP.BQ HS.out.pool nA.1;have HJ:=qd (HP.OP nA.1);obtain⟨Fl,yx⟩:∃Fl,Fl=jK (jt id):=⟨_,rfl⟩;rw[←yx]at hl;have Lr:=qd yx.symm;have HL:=qd hl;have FQ:=qd (yu id nA.2);have ow:=qd HS.out.aB.map
   have hmem:id∈iQ left a2 (aL.take i)++aL.drop i:=by rw[drop_cons hid];simp
   have HV:=qd (show jL s.val (iQ left a2 (aL.take i)++aL.drop i) (id:Int)=some (.iface (jt id) (.pointer (some (ja id))))from by rw[yt hmem,hval.out]);have hle:=HP.le HS.out.pool nA.1;have eG:=qd (Ls (left:=left) (a:=a2) hid);have Lv:=qd (drop_cons hid);have ug:=qd HS.out.aB.nd;have I7:=qd nA;have JU:=qd hmem;obtain⟨lf,hlf⟩:∃lf,lf=left a2 id:=⟨_,rfl⟩;rw[←hlf]at HL hle;have jC:=qd hlf;have HAI:=qd WH;obtain⟨FN,FP⟩:=sF HS.out.aB;clear hl yx nA hlf hid hmem;subst WH;go_wp2_with (at_lookup;refine wV rfl _ _ rfl rfl ow.out _ rfl FQ.out _ HV.out ?_);rw[sj HJ.out,Result.andThen_ok,sD HJ.out];rw[show jK (jt id)=Fl from Lr.out];rw[Oper.upon_enter];refine HL.out.mono ?_;rintro x w5 ⟨rfl,hb5⟩;replace HS:=qd (HS.out.below HP hb5);replace HO:=qB hb5 HO;replace tF:=qB hb5 tF;clear HL FN FP hb5 Lr ow hce;rcases Nat.eq_zero_or_pos lf with h0|h1
   ·subst h0;have AP:=qd (show left a2 id=0 from jC.out.symm);have HR:=qd (BR HP s F0 F2 b2 _ a2 x2 id JU.out I7.out.2 w5 HS.out);unfold fD at HR;simp only[Int.ofNat_zero]at*;go_wp2_with fail;refine HR.out.mono ?_;rintro x w6 ⟨rfl,hs6,mY⟩;have WI:=jX HO.out mY (fun g hg hq=>Eb.out g hg (by simp[hq]));have GJ:=jX tF.out mY (fun g hg hq=>HRI.out g hg (by simp[hq]))
    have O1:bD W0 E P At s w F0 w6 b2 (iQ left a2 (aL.take (i+1))++aL.drop (i+1)) a2 F2 x2:=by
     have hnd:=ug.out;rw[Lv.out]at hs6 hnd;rw[Lu (fun hh=>(List.nodup_append.1 hnd).2.2 id hh id (by simp) rfl)]at hs6;rw[eG.out.1,if_pos AP.out,List.append_nil];exact hs6
    have HS6:=qd O1;have Zy:=qd GJ;have hz6:=hs6.size;have O3:∀g',(Value.slice (some ⟨g,0,none⟩) aL.length cI).ownBlock=some g'→g'<w6.heap.size:=fun g' hg'=>(GJ.lt g' hg').2;have Zz:=qd O3;clear HS HO HR tF hs6 O1 mY GJ O3
    have acM:D.length+1≤100:=by have:=hlen.out;omega
    go_wp2_with (at_builtin;refine jF rfl rfl yj WI rfl rfl rfl rfl rfl (by omega) (by omega) ?_;intro v4 w7 dM iI;obtain⟨A4,c4,rfl⟩:=aU dM);obtain⟨hs7,ZA⟩:=HS6.out.app HP WI (Nat.le_refl _) Eb.out iI
    have ZB:=Zy.out.kept iI.nG (.inr (by
     intro he;have hee:∃g',(Value.slice (some ⟨g,0,none⟩) aL.length cI).ownBlock=some g':=⟨g,rfl⟩;obtain⟨g',hg'⟩:=hee
     exact O0.out g' (by rw[←he];exact hg') hg'))
    have ZC:∀g',(Value.slice A4 (D.length+1) c4).ownBlock=some g'→(Value.slice (some ⟨g,0,none⟩) aL.length cI).ownBlock≠some g':=fun g' hg' he=>by
     rcases iI.at_ with h1|⟨g2,h1,h2⟩
     ·exact O0.out g' (h1▸hg') he
     ·have:=Zz.out g' he;rw[h1]at hg'
      injection hg' with hg'
      omega
    go_roundw
    case rel=>exact⟨i+1,D++[id],by omega,qd (by rw[eG.out.2,if_pos AP.out,HD.out,List.append_assoc]),by go_num,qd hs7,by simpa[dH]using dM,qd ZB,qd (by simpa using ZA),qd (by simpa using ZC),by simp;omega⟩
    case measure=>simp[intOf];omega
   ·have hl1:¬(lf:Int)<1:=by omega
    have hne:¬left a2 id=0:=by rw[←jC.out];omega
    have nM:=qd hne;have hs5:=HS.out;rw[Lv.out]at hs5;have VE:=qd (show bD W0 E P At s w F0 w5 b2 (iQ left a2 (aL.take (i+1))++aL.drop (i+1)) a2 F2 x2 from by rw[eG.out.1,if_neg hne,List.append_assoc];exact hs5);clear hs5 hne HS;go_wp2;go_roundw
    case rel=>exact⟨i+1,D,by omega,qd (by rw[eG.out.2,if_neg nM.out,List.append_nil];exact HD.out),by go_num,VE,HO.out,tF,Eb,O0,by omega⟩
    case measure=>simp[intOf];omega
  ·obtain rfl:i=aL.length:=by omega
   have hlt':¬(aL.length:Int)<(aL.length:Int):=by omega
   have ht:aL.take aL.length=aL:=List.take_length;have hd:aL.drop aL.length=[]:=List.drop_length;rw[ht,hd,List.append_nil]at HS;rw[ht]at HD;clear ht hd;rw[HD.out]at HO Eb⊢;go_wp2;go_ret;have D8:=HO.out;have WJ:=Eb.out;rw[List.length_append]at D8 WJ;exact⟨A,vc,e1,aL,a,a2,rfl,D8,Zw.out,Zx.out,F2,x2,⟨b2,HS.out⟩,OW.out.mono (by omega) (by omega),WJ⟩
theorem JV {W0:World}{E:Nat→Addr}{P:MP}{α:Type}{jt:Nat→TypeId}{ja:Nat→Addr}{At:World→List Nat→α→Prop}{can:α→Nat→Prop}{left:α→Nat→Nat}{Stp:α→Nat→α→Prop}(HP:jd W0 E P jt ja At can left Stp)(s:SP)(F:List Nat)(K:Nat)(hK:1≤K∧K≤64)(hk:s.k=(K:Int))(b:Int)(ids:List Nat)(a:α)(x:bP)(own:Nat)(lV:own≤1000)(hin:own∈ids)(hval:∀id,s.val id= .iface (jt id) (.pointer (some (ja id))))(hcan:∀id∈ids,can a id∧id≤1000)(w:World)(h:bD W0 E P At s w F w b ids a F x):
  Calls Tryz.prog 110 #[fD s.sb,ny P,.int .i64 (own:Int)] w fun e w'=>∃A cc e1 bT a1 a2 F' x' b',e= .returned (.slice A (e1++gP left a2 bT).length cc)∧w'.ownsRow w.heap.size 3 1 (.slice A (e1++gP left a2 bT).length cc) (e1++gP left a2 bT).length (dH (e1++gP left a2 bT))∧vN left Stp ids own (8*K) a a1∧tu left Stp K ids a1 e1 bT a2∧bD W0 E P At s w F w' b' (iQ left a2 bT) a2 F' x'∧d9 x x' 0 (9*K)∧nV P s F' (.slice A (e1++gP left a2 bT).length cc):=by
 have hval:=qd hval;have hlen:=qd h.aB.many;have H0:=qd h;have Gz:=qd hcan;have AQ:=qd hin;obtain⟨F0,CK⟩:∃F0,F0=F:=⟨_,rfl⟩
 have hk':1≤s.k∧s.k≤64:=by omega
 have hk8:0≤8*s.k∧8*s.k≤1000:=by omega
 have WC:8*s.k=((8*K:Nat):Int):=by rw[hk];omega
 have HK8:=qd WC;have I9:=qd hk;have FQ:=qd (yu own lV);unfold fD ny;clear h hcan hin WC hk;rw[←CK]at H0⊢;clear CK;go_in;have HS:=H0;have jO:=qd (OH s.k 1 1 (by omega) w);unfold kJ at jO;obtain⟨sp,hsb⟩:=HS.out.aB.blk;have k0:=aj.cell hsb 0;have k1:=aj.cell hsb 1;have k2:=aj.cell hsb 2;have k4:=aj.cell hsb 4;simp only[gl]at k0 k1 k2 k4;clear hsb;go_wp2_with fail;refine jO.out.mono ?_;rintro x w1 ⟨rfl,hb⟩;replace HS:=qd (HS.out.below HP hb);clear k0 k1 k2 k4 hb jO;have jT:=qd (BS HP s F0 F0 b (8*s.k) hk8 ids a x w1 HS.out);unfold fD at jT;go_wp2_with fail;refine jT.out.mono ?_;rintro z w2 ⟨rfl,hs⟩;clear HS jT;have HS:=qd (show bD W0 E P At s w F0 w2 ((8*K:Nat):Int) ids a F0 x from by rw[←HK8.out];exact hs);clear hs H0;obtain⟨sp,hsb⟩:=HS.out.aB.blk;have k0:=aj.cell hsb 0;have k1:=aj.cell hsb 1;have k2:=aj.cell hsb 2;have k4:=aj.cell hsb 4;simp only[gl]at k0 k1 k2 k4;clear hsb;have ow:=qd HS.out.aB.map;have HV:=qd (show jL s.val ids (own:Int)=some (.iface (jt own) (.pointer (some (ja own))))from by rw[yt AQ.out,hval.out]);go_wp2_with (at_lookup;refine CG rfl _ _ rfl rfl ow.out _ rfl FQ.out ?_;rw[HV.out]);clear k0 k1 k2 k4 ow HV
 have h8K:8*K≤512:=by omega
 go_loopw [] (fun wr=>∃(n c:Nat) (a1:α) (F1:List Nat) (x1:bP),Hid (n+c=8*K)∧Hid (bD W0 E P At s w F0 wr (c:Int) ids a1 F1 x1)∧Hid (JR Stp own n a a1)∧Hid (d9 x x1 0 n)) (fun wr=>EN s.sb s.qb wr)
 case atStart=>exact⟨0,8*K,a,F0,x,qd (by omega),HS,qd rfl,qd (d9.refl x)⟩
 case round=>
  clear HS;obtain⟨n,c,a1,F1,x1,HN,HS,jY,GH⟩:=hrel
  have hc8:c≤512:=by have:=HN.out;omega
  have hn8:n≤8*K:=by have:=HN.out;omega
  have I7:=qd (GD HP jY.out (Gz.out own AQ.out).1);have Cy:=qd HS.out.aB.meas;have Uj:=qd (Zv HP s F0 F1 c (by omega) ids a1 x1 own I7.out wr HS.out);unfold fD ny at Uj;go_wp2_with fail;refine Uj.out.mono ?_;rintro e V (⟨rfl,a3,F3,x3,hc1,hst,hco,hs⟩|⟨rfl,hor,hs⟩)
  ·have kZ:=qd hs;have aeA:=qd (show JR Stp own (n+1) a a3 from⟨a1,jY.out,hst⟩);have aeB:=qd (GH.out.trans hco);clear HS hs hst hco Uj;go_wp2;go_roundw
   case rel=>exact⟨n+1,c-1,a3,F3,x3,qd (by have:=HN.out;omega),kZ,aeA,qd (aeB.out.mono (by omega) (by omega))⟩
   case measure=>rw[Cy.out,kZ.out.aB.meas];omega
  ·replace HS:=qd hs;have Zw:=qd (show vN left Stp ids own (8*K) a a1 from .inr ⟨AQ.out,n,jY.out,hn8,by have:=HN.out;rcases hor with h1|h1;exact .inr h1;left;omega⟩);have Ja:∀id∈ids,can a1 id∧id≤1000:=fun id hid=>⟨GD HP jY.out (Gz.out id hid).1,(Gz.out id hid).2⟩;clear hs hor Uj jY Cy HN I7;have BU:=qd Ja;clear Ja;have jO:=qd (IV s.k 1 1 (by omega) V);unfold kJ at jO;obtain⟨sp,hsb⟩:=HS.out.aB.blk;have k0:=aj.cell hsb 0;have k1:=aj.cell hsb 1;have k2:=aj.cell hsb 2;have k4:=aj.cell hsb 4;simp only[gl]at k0 k1 k2 k4;clear hsb;go_wp2_with fail;refine jO.out.mono ?_;rintro x w1 ⟨rfl,hb⟩;replace HS:=qd (HS.out.below HP hb);clear k0 k1 k2 k4 hb jO;have jT:=qd (BS HP s F0 F1 (c:Int) s.k (by omega) ids a1 x1 w1 HS.out);unfold fD at jT;go_wp2_with fail;refine jT.out.mono ?_;rintro x w2 ⟨rfl,hs⟩;clear HS jT;have HS:=qd (show bD W0 E P At s w F0 w2 ((K:Nat):Int) ids a1 F1 x1 from by rw[←I9.out];exact hs);clear hs;have FR:=qd (D7 HP s F1 K (by omega) ids a1 x1 hval.out BU.out w2 HS.out.again);unfold fD ny at FR;go_wp2_with fail;refine FR.out.mono ?_;rintro x w3 ⟨A9,c9,e1,aL,a2,F2,x2,b2,rfl,D8,hoth,hs3,D9,OV⟩;have kZ:=qd (HS.out.chain hs3);have GI:=qd kZ.out.size;have OW:=qd (GH.out.trans D9);have Zx:=qd hoth;have Ea:=qd (ru D8 HS.out.size);have OX:=qd OV;have Ui:=qd (fun i (hi:i∈aL)=>And.intro (RJ HP hoth (BU.out i (by rw[sG hoth];simp[hi])).1) (BU.out i (by rw[sG hoth];simp[hi])).2)
   have hel:e1.length+aL.length=ids.length:=by rw[sG hoth,List.length_append]
   clear HS D8 hoth hs3 D9 OV FR;have oz:=qd (Lj s.sb s.qb s.rb s.jb s.k b2 s.val aL w3 kZ.out.aB);unfold fD at oz;go_wp2_with fail;refine oz.out.mono ?_;rintro x w4 ⟨AI,cI,rfl,OY,hb4⟩;have Jb:∀g,(Value.slice AI aL.length cI).ownBlock=some g→w3.heap.size≤g:=fun g hg=>(OY.lt g hg).1
   have WE:∀g,(Value.slice A9 e1.length c9).ownBlock=some g→(Value.slice AI aL.length cI).ownBlock≠some g:=fun g hg he=>by
    have h1:=(Ea.out.lt g hg).2;have h2:=Jb g he;omega
   have OZ:nV P s F2 (.slice AI aL.length cI):=fun g hg hq=>by
    have h1:=kZ.out.fH HP g hq;have h2:=Jb g hg;omega
   replace kZ:=qd (kZ.out.below HP hb4);replace Ea:=qB hb4 Ea;have HRI:=qd OZ;have tF:=qd (ru OY (show w.heap.size≤w3.heap.size from GI.out));have WG:=qd WE;have HBI:=qd Jb;have hz4:=hb4.size;have aez:=kZ.out.size;have hzb:w.heap.size≤w3.heap.size:=GI.out;clear OY hb4 OZ WE Jb oz;go_wp2;clear GI;go_loopw [9,11,46] (fun v9 _ v46 wr=>∃(i:Nat) (D:List Nat),i≤aL.length∧Hid (D=e1++gP left a2 (aL.take i))∧v46= .int .i64 (i:Int)∧Hid (bD W0 E P At s w F0 wr b2 (iQ left a2 (aL.take i)++aL.drop i) a2 F2 x2)∧wr.ownsRow w.heap.size 3 1 v9 D.length (dH D)∧Hid (wr.ownsRow w.heap.size 3 1 (.slice AI aL.length cI) aL.length (dH aL))∧Hid (nV P s F2 v9)∧Hid (∀g,v9.ownBlock=some g→(Value.slice AI aL.length cI).ownBlock≠some g)∧D.length≤e1.length+i) (fun _ _ v46 _=>aL.length-(intOf v46).toNat)
   case atStart=>exact⟨0,e1,by omega,qd (by simp[gP]),rfl,by simpa[iQ]using kZ,Ea.out,tF,OX,WG,by omega⟩
   case round=>
    clear Ea kZ tF OX WG;obtain⟨i,D,hi,HD,rfl,HS,hO,tF,Eb,O0,hdl⟩:=hrel;obtain⟨A,vc,rfl⟩:=aU hO;have HO:=qd hO;clear hO;by_cases hlt:i<aL.length
    ·have hlt':(i:Int)<(aL.length:Int):=by omega
     have hi0:(0:Int)≤(i:Int):=by omega
     have acO:(i:Int)≤41:=by have:=hlen.out;omega
     obtain⟨id,hid⟩:∃id,aL[i]?=some id:=⟨_,List.getElem?_eq_getElem hlt⟩;obtain⟨g,WH,hge,hgl,hce,_⟩:=nk tF.out hid;have nA:=Ui.out id (List.mem_of_getElem? hid);have hl:=HP.BQ HS.out.pool nA.1;have HJ:=qd (HP.OP nA.1);obtain⟨Fl,yx⟩:∃Fl,Fl=jK (jt id):=⟨_,rfl⟩;rw[←yx]at hl;have Lr:=qd yx.symm;have HL:=qd hl;have FQ:=qd (yu id nA.2);have ow:=qd HS.out.aB.map
     have hmem:id∈iQ left a2 (aL.take i)++aL.drop i:=by rw[drop_cons hid];simp
     have HV:=qd (show jL s.val (iQ left a2 (aL.take i)++aL.drop i) (id:Int)=some (.iface (jt id) (.pointer (some (ja id))))from by rw[yt hmem,hval.out]);have hle:=HP.le HS.out.pool nA.1;have eG:=qd (Ls (left:=left) (a:=a2) hid);have Lv:=qd (drop_cons hid);have ug:=qd HS.out.aB.nd;have I7:=qd nA;have JU:=qd hmem;obtain⟨lf,hlf⟩:∃lf,lf=left a2 id:=⟨_,rfl⟩;rw[←hlf]at HL hle;have jC:=qd hlf;have HAI:=qd WH;obtain⟨FN,FP⟩:=sF HS.out.aB;clear hl yx nA hlf hid hmem;subst WH;go_wp2_with (at_lookup;refine wV rfl _ _ rfl rfl ow.out _ rfl FQ.out _ HV.out ?_);rw[sj HJ.out,Result.andThen_ok,sD HJ.out];rw[show jK (jt id)=Fl from Lr.out];rw[Oper.upon_enter];refine HL.out.mono ?_;rintro x w5 ⟨rfl,hb5⟩;replace HS:=qd (HS.out.below HP hb5);replace HO:=qB hb5 HO;replace tF:=qB hb5 tF;clear HL FN FP hb5 Lr ow hce;rcases Nat.eq_zero_or_pos lf with h0|h1
     ·subst h0;have AP:=qd (show left a2 id=0 from jC.out.symm);have HR:=qd (BR HP s F0 F2 b2 _ a2 x2 id JU.out I7.out.2 w5 HS.out);unfold fD at HR;simp only[Int.ofNat_zero]at*;go_wp2_with fail;refine HR.out.mono ?_;rintro x w6 ⟨rfl,hs6,mY⟩;have WI:=jX HO.out mY (fun g hg hq=>Eb.out g hg (by simp[hq]));have GJ:=jX tF.out mY (fun g hg hq=>HRI.out g hg (by simp[hq]))
      have O1:bD W0 E P At s w F0 w6 b2 (iQ left a2 (aL.take (i+1))++aL.drop (i+1)) a2 F2 x2:=by
       have hnd:=ug.out;rw[Lv.out]at hs6 hnd;rw[Lu (fun hh=>(List.nodup_append.1 hnd).2.2 id hh id (by simp) rfl)]at hs6;rw[eG.out.1,if_pos AP.out,List.append_nil];exact hs6
      have HS6:=qd O1;have Zy:=qd GJ;have hz6:=hs6.size;have O3:∀g',(Value.slice (some ⟨g,0,none⟩) aL.length cI).ownBlock=some g'→g'<w6.heap.size:=fun g' hg'=>(GJ.lt g' hg').2;have Zz:=qd O3;clear HS HO HR tF hs6 O1 mY GJ O3
      have acM:D.length+1≤100:=by have:=hlen.out;omega
      go_wp2_with (at_builtin;refine jF rfl rfl yj WI rfl rfl rfl rfl rfl (by omega) (by omega) ?_;intro v4 w7 dM iI;obtain⟨A4,c4,rfl⟩:=aU dM);obtain⟨hs7,ZA⟩:=HS6.out.app HP WI (Nat.le_refl _) Eb.out iI
      have ZB:=Zy.out.kept iI.nG (.inr (by
       intro he;have hee:∃g',(Value.slice (some ⟨g,0,none⟩) aL.length cI).ownBlock=some g':=⟨g,rfl⟩;obtain⟨g',hg'⟩:=hee
       exact O0.out g' (by rw[←he];exact hg') hg'))
      have ZC:∀g',(Value.slice A4 (D.length+1) c4).ownBlock=some g'→(Value.slice (some ⟨g,0,none⟩) aL.length cI).ownBlock≠some g':=fun g' hg' he=>by
       rcases iI.at_ with h1|⟨g2,h1,h2⟩
       ·exact O0.out g' (h1▸hg') he
       ·have:=Zz.out g' he;rw[h1]at hg'
        injection hg' with hg'
        omega
      go_roundw
      case rel=>exact⟨i+1,D++[id],by omega,qd (by rw[eG.out.2,if_pos AP.out,HD.out,List.append_assoc]),by go_num,qd hs7,by simpa[dH]using dM,qd ZB,qd (by simpa using ZA),qd (by simpa using ZC),by simp;omega⟩
      case measure=>simp[intOf];omega
     ·have hl1:¬(lf:Int)<1:=by omega
      have hne:¬left a2 id=0:=by rw[←jC.out];omega
      have nM:=qd hne;have hs5:=HS.out;rw[Lv.out]at hs5;have VE:=qd (show bD W0 E P At s w F0 w5 b2 (iQ left a2 (aL.take (i+1))++aL.drop (i+1)) a2 F2 x2 from by rw[eG.out.1,if_neg hne,List.append_assoc];exact hs5);clear hs5 hne HS;go_wp2;go_roundw
      case rel=>exact⟨i+1,D,by omega,qd (by rw[eG.out.2,if_neg nM.out,List.append_nil];exact HD.out),by go_num,VE,HO.out,tF,Eb,O0,by omega⟩
      case measure=>simp[intOf];omega
    ·obtain rfl:i=aL.length:=by omega
     have hlt':¬(aL.length:Int)<(aL.length:Int):=by omega
     have ht:aL.take aL.length=aL:=List.take_length;have hd:aL.drop aL.length=[]:=List.drop_length;rw[ht,hd,List.append_nil]at HS;rw[ht]at HD;clear ht hd;rw[HD.out]at HO Eb⊢;go_wp2;go_ret;have D8:=HO.out;have WJ:=Eb.out;rw[List.length_append]at D8 WJ;exact⟨A,vc,e1,aL,a1,a2,rfl,D8,Zw.out,Zx.out,F2,x2,⟨b2,HS.out⟩,OW.out.mono (by omega) (by omega),WJ⟩
end
end Go.Proofs.YtbfpfgfgfjhpfaaGreatDoor
