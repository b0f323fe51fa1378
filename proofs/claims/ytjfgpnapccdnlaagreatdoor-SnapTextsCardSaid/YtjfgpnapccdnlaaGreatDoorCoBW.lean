/- A scheduler's others by its contract. -/
import Derived.Test.YtjfgpnapccdnlaaGreatDoorCoBU
import Derived.Test.YtjfgpnapccdnlaaGreatDoorKit2
import Derived.Test.YtjfgpnapccdnlaaGreatDoorBuilder
namespace Go.Proofs.YtjfgpnapccdnlaaGreatDoor
set_option maxRecDepth 100000
set_option maxHeartbeats 8000000
open Go.RowKit dF
section
variable {w : World} {jb qb rb sb : Nat} {b k : Int} {val : Nat → Value} {ids : List Nat}
def UL (w:World)(p:Addr):Nat:=match w.cell? p with|some (.int _ n)=>n.toNat|_=>0
def EN (sb qb:Nat)(w:World):Nat:=UL w ⟨sb,5,none⟩+UL w ⟨qb,2,none⟩
theorem dS.meas {c:Nat}(h:dS w sb qb rb jb k (c:Int) val ids):EN sb qb w=c+ids.length:=by
 obtain⟨s,h1⟩:=h.blk;obtain⟨ring,first,h2⟩:=h.DX;have c5:=aj.cell h1 5;have c2:=h2.blk.cell 2;simp only[gl]at c5 c2;unfold EN UL;rw[c5,c2];simp
theorem rQ (h:dS w sb qb rb jb k b val ids):w.cell? ⟨sb,3,none⟩=some (.pointer (some ⟨qb,0,none⟩))∧w.cell? ⟨sb,4,none⟩=some (.map (some jb)):=by
 obtain⟨s,h1⟩:=h.blk;exact⟨aj.cell h1 3,aj.cell h1 4⟩
theorem dS.head {id:Nat}(h:dS w sb qb rb jb k b val (id::ids)):Calls Tryz.prog 218 #[.pointer (some ⟨qb,0,none⟩)] w fun e w'=>e= .returned (.tuple #[.int .i64 (id:Int),.bool true])∧w.drew=w':=by
 obtain⟨ring,first,h2⟩:=h.DX
 exact Uz qb rb ring first id ids w h2
theorem dS.acv (h:dS w sb qb rb jb k b val []):Calls Tryz.prog 218 #[.pointer (some ⟨qb,0,none⟩)] w fun e w'=>e= .returned (.tuple #[.int .i64 0,.bool false])∧w=w':=by
 obtain⟨ring,first,h2⟩:=h.DX
 exact Nb qb rb ring first [] w h2
theorem dS.balance (h:dS w sb qb rb jb k b val ids):Calls Tryz.prog 219 #[.pointer (some ⟨sb,5,none⟩)] w fun e w'=>e= .returned (.int .i64 b)∧w=w':=by
 obtain⟨s,h1⟩:=h.blk;exact Ke sb b w h1
theorem D8 {W0:World}{E:Nat→Addr}{P:MP}{α:Type}{jt:Nat→TypeId}{ja:Nat→Addr}{At:World→List Nat→α→Prop}{can:α→Nat→Prop}{left:α→Nat→Nat}{Stp:α→Nat→α→Prop}(HP:iI W0 E P jt ja At can left Stp)(s:SP)(F:List Nat)(c0:Nat)(hc:c0≤64)(ids:List Nat)(a:α)(x:bJ)(hval:∀id,s.val id= .iface (jt id) (.pointer (some (ja id))))(hcan:∀id∈ids,can a id∧id≤1000)(w:World)(h:bq W0 E P At s w F w (c0:Int) ids a F x):
  Calls Tryz.prog 158 #[eG s.sb,mH P] w fun e w'=>∃A cc ended aP a' F' x' b',e= .returned (.slice A ended.length cc)∧w'.ownsRow w.heap.size 3 1 (.slice A ended.length cc) ended.length (cZ ended)∧sS left Stp c0 ids a ended aP a'∧bq W0 E P At s w F w' b' aP a' F' x'∧dV x x' 0 c0∧ny P s F' (.slice A ended.length cc):=by
 have hval:=qd hval;have hlen:=qd h.aC.many;have H0:=qd h;have GL:=qd hcan;obtain⟨F0,LZ⟩:∃F0,F0=F:=⟨_,rfl⟩;unfold eG mH;clear h hcan;rw[←LZ]at H0⊢;clear LZ;go_in;go_wp2;go_loopw [5,6,7] (fun v5 _ _ wr=>∃(c:Nat) (bK e1:List Nat) (a1:α) (F1:List Nat) (x1:bJ) (u:Nat),Hid (bq W0 E P At s w F0 wr (c:Int) bK a1 F1 x1)∧wr.ownsRow w.heap.size 3 1 v5 e1.length (cZ e1)∧Hid (∀e aP a',sS left Stp c bK a1 e aP a'→sS left Stp c0 ids a (e1++e) aP a')∧(u+c=c0∧e1.length+bK.length=ids.length)∧(∀id∈bK,can a1 id∧id≤1000)∧dV x x1 0 u∧Hid (ny P s F1 v5)) (fun _ _ _ wr=>EN s.sb s.qb wr)
 case atStart=>exact⟨c0,ids,[],a,F0,x,0,H0,⟨rfl,.inl ⟨rfl,rfl⟩⟩,qd (fun _ _ _ h=>h),⟨by omega,by simp⟩,GL.out,dV.refl x,qd (fun g hg=>by cases hg)⟩
 case round=>
  obtain⟨c,bK,e1,a1,F1,x1,u,HS,hO,hK,hu,hcan,hCo,Sz⟩:=hrel;obtain⟨A,vc,rfl⟩:=aH hO;have hE1:=HS.out.aC.many;have HM0:=qd HS.out.aC.meas;obtain⟨hu,hE2⟩:=hu;rcases bK with _|⟨id,bK⟩
  ·have HH:=qd HS.out.aC.acv;have HF:=qd (hK.out _ _ _ (sS.nil c a1));have HO:=qd hO;have HC:=qd hCo
   have hu2:u≤c0:=by omega
   obtain⟨FW,FX⟩:=rQ HS.out.aC;clear hO hCo hcan;go_wp2_with fail;refine HH.out.mono ?_;rintro x w1 ⟨rfl,rfl⟩;go_wp2;go_ret;exact⟨A,vc,e1,[],a1,F1,x1,_,rfl,HO.out,by simpa using HF.out,HS.out,HC.out.mono (Nat.le_refl _) hu2,Sz.out⟩
  ·have HH:=qd HS.out.aC.head;obtain⟨FW,FX⟩:=rQ HS.out.aC;have HO:=qd hO;have HC:=qd hCo;have UM:=qd hcan;have hlo:=hO.lt;clear hO hCo hcan;go_wp2_with fail;refine HH.out.mono ?_;rintro x w1 ⟨rfl,hdr⟩;have hb1:Below wr.heap.size wr w1:=hdr▸(Below.refl _ _).drew;clear hdr;replace HS:=qd (HS.out.below HP hb1);replace HO:=qB hb1 HO;clear FW FX HH;obtain⟨FW,FX⟩:=rQ HS.out.aC;have HB:=qd HS.out.aC.balance;go_wp2_with fail;refine HB.out.mono ?_;rintro x w2 ⟨rfl,rfl⟩;rcases c with _|c
   ·have HF:=qd (hK.out _ _ _ (sS.broke (id::bK) a1))
    have hu2:u≤c0:=by omega
    clear hK HB;simp only[Int.ofNat_zero]at*;go_wp2;go_ret;exact⟨A,vc,e1,_,a1,F1,x1,_,rfl,HO.out,by simpa using HF.out,HS.out,HC.out.mono (Nat.le_refl _) hu2,Sz.out⟩
   ·have hc0:¬((c+1:Nat):Int)=0:=by omega
    have mI:=UM.out id (by simp);have hl:=HP.BQ HS.out.pool mI.1;have HJ:=qd (HP.PN mI.1);obtain⟨Fl,yF⟩:∃Fl,Fl=jw (jt id):=⟨_,rfl⟩;rw[←yF]at hl;have L6:=qd yF.symm;have HL:=qd hl;have FY:=qd (yD id mI.2);have pY:=qd HS.out.aC.map;have HV:=qd (show jy s.val (id::bK) (id:Int)=some (.iface (jt id) (.pointer (some (ja id))))from by rw[yC (by simp),hval.out]);have hle:=HP.le HS.out.pool mI.1;have Jp:=qd mI;obtain⟨lf,hlf⟩:∃lf,lf=left a1 id:=⟨_,rfl⟩;rw[←hlf]at HL hle;have jh:=qd hlf;clear hl yF mI HB hlf;go_wp2_with (at_lookup;refine wZ rfl _ _ rfl rfl pY.out _ rfl FY.out _ HV.out ?_);rw[rO HJ.out,Result.andThen_ok,rP HJ.out];rw[show jw (jt id)=Fl from L6.out];rw[Oper.upon_enter];refine HL.out.mono ?_;rintro x w3 ⟨rfl,hb3⟩;replace HS:=qd (HS.out.below HP hb3);replace HO:=qB hb3 HO;replace pY:=qd HS.out.aC.map;have ae4:=HS.out.size;clear HL FW FX hb3 L6;obtain⟨FW,FX⟩:=rQ HS.out.aC;rcases Nat.eq_zero_or_pos lf with h0|h1
    ·subst h0;have PV:=qd (show left a1 id=0 from jh.out.symm);have HR:=qd (BR HP s F0 F1 ((c+1:Nat):Int) (id::bK) a1 x1 id (by simp) Jp.out.2 w3 HS.out);simp only[List.erase_cons_head]at HR;simp only[Int.ofNat_zero]at*;go_wp2_with fail;refine HR.out.mono ?_;rintro x w4 ⟨rfl,hs4,kD⟩;have hO4:=jI HO.out kD (fun g hg hq=>Sz.out g hg (by simp[hq]));have Xz:=kD.size;clear kD HS HO HR FW FX pY;have ae8:=hs4.size;have HS4:=qd hs4;clear hs4
     have adB:e1.length+1≤100:=by have:=hlen.out;omega
     go_wp2_with (at_builtin;refine aB rfl rfl yB hO4 rfl rfl rfl rfl rfl (by omega) (by omega) ?_;intro v4 w5 dh gN;obtain⟨A4,c4,rfl⟩:=aH dh);obtain⟨hs5,aff⟩:=HS4.out.app HP hO4 (Nat.le_refl _) Sz.out gN;go_roundw
     case rel=>exact⟨c+1,bK,e1++[id],a1,F1,x1,u,qd hs5,by simpa[cZ]using dh,qd (fun e aP a' hh=>by rw[List.append_assoc];exact hK.out _ _ _ (.ended PV.out hh)),⟨by omega,by simp at hE2⊢;omega⟩,fun i hi=>UM.out i (by simp[hi]),HC.out,qd (by simpa using aff)⟩
     case measure=>
      rw[hs5.aC.meas,HM0.out];simp
    ·have hl1:¬(lf:Int)<1:=by omega
     have jT:=qd (PO HP s F0 F1 c (by omega) (id::bK) a1 x1 id Jp.out.1 (by rw[←jh.out];exact h1) w3 HS.out);unfold mH at jT;go_wp2_with (at_lookup;refine wZ rfl _ _ rfl rfl pY.out _ rfl FY.out _ HV.out ?_);refine jT.out.mono ?_;rintro x w4 ⟨rfl,a2,F2,x2,hst,hco,hs4,hF2,kD⟩;have hO4:=jI HO.out kD Sz.out;have adC:=Sz.out.step HO.out hF2;have GN:=qd (And.intro hs4 (And.intro hO4 (And.intro adC (And.intro hst hco))));have Xz:=kD.size;clear hs4 hO4 adC hst hco kD hF2;go_wp2;go_roundw
     case rel=>exact⟨c,id::bK,e1,a2,F2,x2,u+1,qd GN.out.1,GN.out.2.1,qd (fun e aP a' hh=>hK.out _ _ _ (.step (by rw[←jh.out];exact h1) GN.out.2.2.2.1 hh)),⟨by omega,by omega⟩,fun i hi=>⟨HP.jc GN.out.2.2.2.1 (UM.out i hi).1,(UM.out i hi).2⟩,(HC.out.trans GN.out.2.2.2.2).mono (by omega) (by omega),qd GN.out.2.2.1⟩
     case measure=>
      rw[GN.out.1.aC.meas,HM0.out];omega
end
section
variable {c i id j : Nat} {e aP : List Nat}
def Kg {α:Type}(Stp:α→Nat→α→Prop)(id:Nat):Nat→α→α→Prop
 |0,a,a'=>a=a'
 |n+1,a,a'=>∃b,Kg Stp id n a b∧Stp b id a'
def vK {α:Type}(left:α→Nat→Nat)(Stp:α→Nat→α→Prop)(ids:List Nat)(own n:Nat)(a a':α):Prop:=
 (own∉ids∧a'=a)∨(own∈ids∧∃m,Kg Stp own m a a'∧m≤n∧(m=n∨left a' own=0))
def fT {α:Type}(left:α→Nat→Nat)(a:α)(ids:List Nat):List Nat:=ids.filter fun id=>left a id==0
def gY {α:Type}(left:α→Nat→Nat)(a:α)(ids:List Nat):List Nat:=ids.filter fun id=>left a id !=0
theorem GQ {W0:World}{E:Nat→Addr}{P:MP}{α:Type}{jt:Nat→TypeId}{ja:Nat→Addr}{At:World→List Nat→α→Prop}{can:α→Nat→Prop}{left:α→Nat→Nat}{Stp:α→Nat→α→Prop}(HP:iI W0 E P jt ja At can left Stp):∀{n:Nat} {a a':α},Kg Stp id n a a'→can a j→can a' j
 |0,_,_,h,hc=>h▸hc
 |_+1,_,_,⟨_,h1,h2⟩,hc=>HP.jc h2 (GQ HP h1 hc)
theorem SA {W0:World}{E:Nat→Addr}{P:MP}{α:Type}{jt:Nat→TypeId}{ja:Nat→Addr}{At:World→List Nat→α→Prop}{can:α→Nat→Prop}{left:α→Nat→Nat}{Stp:α→Nat→α→Prop}(HP:iI W0 E P jt ja At can left Stp){ids:List Nat}{a a':α}(h:sS left Stp c ids a e aP a')(hc:can a j):can a' j:=by
 induction h with
 |nil=>exact hc
 |broke=>exact hc
 |ended _ _ ih=>exact ih hc
 |step _ hs _ ih=>exact ih (HP.jc hs hc)
theorem rR {α:Type}{left:α→Nat→Nat}{Stp:α→Nat→α→Prop}{ids:List Nat}{a a':α}(h:sS left Stp c ids a e aP a'):ids=e++aP:=by
 induction h with
 |nil=>rfl
 |broke=>rfl
 |ended _ _ ih=>rw[ih];rfl
 |step _ _ _ ih=>exact ih
theorem aau {W0 w0:World}{E:Nat→Addr}{P:MP}{α:Type}{jt:Nat→TypeId}{ja:Nat→Addr}{At:World→List Nat→α→Prop}{can:α→Nat→Prop}{left:α→Nat→Nat}{Stp:α→Nat→α→Prop}(HP:iI W0 E P jt ja At can left Stp)(s:SP)(F0 F:List Nat)(b:Nat)(hb:b≤1000)(ids:List Nat)(a:α)(x:bJ)(id:Nat)(hc:can a id)(w:World)(h:bq W0 E P At s w0 F0 w (b:Int) ids a F x):
  Calls Tryz.prog 156 #[eG s.sb,mH P,.iface (jt id) (.pointer (some (ja id)))] w fun e w'=>(e= .returned (.bool true)∧∃a' F' x',1≤b∧Stp a id a'∧dV x x' 0 1∧bq W0 E P At s w0 F0 w' ((b-1:Nat):Int) ids a' F' x')∨(e= .returned (.bool false)∧(left a id=0∨b=0)∧bq W0 E P At s w0 F0 w' (b:Int) ids a F x):=by
 rcases Nat.eq_zero_or_pos (left a id)with h0|h1
 ·exact(step_done HP s F0 F b ids a x id hc h0 w h).mono fun e w' ⟨h1,h2⟩=> .inr ⟨h1,.inl h0,h.below HP h2⟩
 ·rcases b with _|b
  ·exact(UG HP s F0 F ids a x id hc h1 w h).mono fun e w' ⟨h1,h2⟩=> .inr ⟨h1,.inr rfl,h.below HP h2⟩
  ·exact(PO HP s F0 F b (by omega) ids a x id hc h1 w h).mono fun e w' ⟨h1,a',F',x',h2,h3,h4,_⟩=> .inl ⟨h1,a',F',x',by omega,h2,h3,h4⟩
theorem L8 {α:Type}{left:α→Nat→Nat}{a:α}{ids:List Nat}(h:ids[i]?=some id):gY left a (ids.take (i+1))=gY left a (ids.take i)++(if left a id=0 then []else [id])∧fT left a (ids.take (i+1))=fT left a (ids.take i)++(if left a id=0 then [id]else []):=by
 have ht:ids.take (i+1)=ids.take i++[id]:=by rw[List.take_add_one,h];rfl
 unfold gY fT;rw[ht,List.filter_append,List.filter_append]
 by_cases h0:left a id=0<;>simp[h0]
theorem drop_cons {ids:List Nat}(h:ids[i]?=some id):ids.drop i=id::ids.drop (i+1):=by
 obtain⟨hl,rfl⟩:=List.getElem?_eq_some_iff.1 h;exact List.drop_eq_getElem_cons hl
theorem L9 {l r:List Nat}(h:id∉l):(l++id::r).erase id=l++r:=by
 rw[List.erase_append_right _ h,List.erase_cons_head]
section
variable {W0 w0 w w2 : World} {E : Nat → Addr} {P : MP} {α : Type} {jt : Nat → TypeId} {ja : Nat → Addr} {At : World → List Nat → α → Prop} {can : α → Nat → Prop} {left : α → Nat → Nat} {Stp : α → Nat → α → Prop} {s : SP} {F0 F F2 : List Nat} {b b2 : Int} {ids aL : List Nat} {a a2 : α} {x x2 : bJ}
theorem bq.again (h:bq W0 E P At s w0 F0 w b ids a F x):bq W0 E P At s w F w b ids a F x:=⟨h.aC,h.pool,h.met,h.env,h.apart,h.vJ,h.env.size,fun _ hq=> .inl hq,Mod.refl _ _⟩
theorem bq.chain (h:bq W0 E P At s w0 F0 w b ids a F x)(k:bq W0 E P At s w F w2 b2 aL a2 F2 x2):bq W0 E P At s w0 F0 w2 b2 aL a2 F2 x2:=
 ⟨k.aC,k.pool,k.met,k.env,k.apart,k.vJ,h.qz,fun q hq=>(k.sub q hq).elim (h.sub q) (fun hh=> .inr (Nat.le_trans h.size hh)),h.mod.trans k.mod (fun _ hq _=>hq) (fun q hq hl=>by
  rcases List.mem_cons.1 hq with h1|h1
  ·simp[h1]
  ·rcases List.mem_append.1 h1 with h2|h2
   ·simp[h2]
   ·rcases h.sub q h2 with h3|h3
    ·simp[h3]
    ·omega)⟩
end
theorem Jq {W0:World}{E:Nat→Addr}{P:MP}{α:Type}{jt:Nat→TypeId}{ja:Nat→Addr}{At:World→List Nat→α→Prop}{can:α→Nat→Prop}{left:α→Nat→Nat}{Stp:α→Nat→α→Prop}(HP:iI W0 E P jt ja At can left Stp)(s:SP)(F:List Nat)(K:Nat)(hK:1≤K∧K≤64)(hk:s.k=(K:Int))(b:Int)(ids:List Nat)(a:α)(x:bJ)(own:Nat)(lJ:own≤1000)(hin:own∉ids)(hval:∀id,s.val id= .iface (jt id) (.pointer (some (ja id))))(hcan:∀id∈ids,can a id∧id≤1000)(w:World)(h:bq W0 E P At s w F w b ids a F x):
  Calls Tryz.prog 101 #[eG s.sb,mH P,.int .i64 (own:Int)] w fun e w'=>∃A cc e1 bK a1 a2 F' x' b',e= .returned (.slice A (e1++fT left a2 bK).length cc)∧w'.ownsRow w.heap.size 3 1 (.slice A (e1++fT left a2 bK).length cc) (e1++fT left a2 bK).length (cZ (e1++fT left a2 bK))∧vK left Stp ids own (8*K) a a1∧sS left Stp K ids a1 e1 bK a2∧bq W0 E P At s w F w' b' (gY left a2 bK) a2 F' x'∧dV x x' 0 (9*K)∧ny P s F' (.slice A (e1++fT left a2 bK).length cc):=by
 have hval:=qd hval;have hlen:=qd h.aC.many;have H0:=qd h;have GL:=qd hcan;have AO:=qd hin;obtain⟨F0,LZ⟩:∃F0,F0=F:=⟨_,rfl⟩
 have hk':1≤s.k∧s.k≤64:=by omega
 have hk8:0≤8*s.k∧8*s.k≤1000:=by omega
 have XA:8*s.k=((8*K:Nat):Int):=by rw[hk];omega
 have HK8:=qd XA;have Jr:=qd hk;have FY:=qd (yD own lJ);unfold eG mH;clear h hcan hin XA hk;rw[←LZ]at H0⊢;clear LZ;go_in;have HS:=H0;have jB:=qd (Pz s.k 1 1 (by omega) w);unfold kR at jB;obtain⟨sp,hsb⟩:=HS.out.aC.blk;have k0:=aj.cell hsb 0;have k1:=aj.cell hsb 1;have k2:=aj.cell hsb 2;have k4:=aj.cell hsb 4;simp only[gl]at k0 k1 k2 k4;clear hsb;go_wp2_with fail;refine jB.out.mono ?_;rintro x w1 ⟨rfl,hb⟩;replace HS:=qd (HS.out.below HP hb);clear k0 k1 k2 k4 hb jB;have kG:=qd (BS HP s F0 F0 b (8*s.k) hk8 ids a x w1 HS.out);unfold eG at kG;go_wp2_with fail;refine kG.out.mono ?_;rintro z w2 ⟨rfl,hs⟩;clear HS kG;have HS:=qd (show bq W0 E P At s w F0 w2 ((8*K:Nat):Int) ids a F0 x from by rw[←HK8.out];exact hs);clear hs H0;obtain⟨sp,hsb⟩:=HS.out.aC.blk;have k0:=aj.cell hsb 0;have k1:=aj.cell hsb 1;have k2:=aj.cell hsb 2;have k4:=aj.cell hsb 4;simp only[gl]at k0 k1 k2 k4;clear hsb;have pY:=qd HS.out.aC.map;have HV:=qd (show jy s.val ids (own:Int)=none from PI AO.out);go_wp2_with (at_lookup;refine Cx rfl _ _ rfl rfl pY.out _ rfl FY.out ?_;rw[HV.out]);clear k0 k1 k2 k4 pY;have aav:=qd (show vK left Stp ids own (8*K) a a from .inl ⟨AO.out,rfl⟩);have Js:=GL.out;have GR:=qd (dV.refl x);have BU:=qd Js;clear Js;have jB:=qd (Jg s.k 1 1 (by omega) w2);unfold kR at jB;obtain⟨sp,hsb⟩:=HS.out.aC.blk;have k0:=aj.cell hsb 0;have k1:=aj.cell hsb 1;have k2:=aj.cell hsb 2;have k4:=aj.cell hsb 4;simp only[gl]at k0 k1 k2 k4;clear hsb;go_wp2_with fail;refine jB.out.mono ?_;rintro x w1 ⟨rfl,hb⟩
 replace HS:=qd (HS.out.below HP hb);clear k0 k1 k2 k4 hb jB;have kG:=qd (BS HP s F0 F0 ((8*K:Nat):Int) s.k (by omega) ids a x w1 HS.out);unfold eG at kG;go_wp2_with fail;refine kG.out.mono ?_;rintro x w2 ⟨rfl,hs⟩;clear HS kG;have HS:=qd (show bq W0 E P At s w F0 w2 ((K:Nat):Int) ids a F0 x from by rw[←Jr.out];exact hs);clear hs;have FZ:=qd (D8 HP s F0 K (by omega) ids a x hval.out BU.out w2 HS.out.again);unfold eG mH at FZ;go_wp2_with fail;refine FZ.out.mono ?_;rintro x w3 ⟨A9,c9,e1,aL,a2,F2,x2,b2,rfl,D9,hoth,hs3,Ea,PW⟩;have kN:=qd (HS.out.chain hs3);have GU:=qd kN.out.size;have PX:=qd (GR.out.trans Ea);have aaw:=qd hoth;have rU:=qd (qK D9 HS.out.size);have PY:=qd PW;have UN:=qd (fun i (hi:i∈aL)=>And.intro (SA HP hoth (BU.out i (by rw[rR hoth];simp[hi])).1) (BU.out i (by rw[rR hoth];simp[hi])).2)
 have hel:e1.length+aL.length=ids.length:=by rw[rR hoth,List.length_append]
 clear HS D9 hoth hs3 Ea PW FZ;have p8:=qd (LV s.sb s.qb s.rb s.jb s.k b2 s.val aL w3 kN.out.aC);unfold eG at p8;go_wp2_with fail;refine p8.out.mono ?_;rintro x w4 ⟨AI,cI,rfl,PZ,hb4⟩;have Jt:∀g,(Value.slice AI aL.length cI).ownBlock=some g→w3.heap.size≤g:=fun g hg=>(PZ.lt g hg).1
 have zu:∀g,(Value.slice A9 e1.length c9).ownBlock=some g→(Value.slice AI aL.length cI).ownBlock≠some g:=fun g hg he=>by
  have h1:=(rU.out.lt g hg).2;have h2:=Jt g he;omega
 have P5:ny P s F2 (.slice AI aL.length cI):=fun g hg hq=>by
  have h1:=kN.out.iE HP g hq;have h2:=Jt g hg;omega
 replace kN:=qd (kN.out.below HP hb4);replace rU:=qB hb4 rU;have HRI:=qd P5;have sV:=qd (qK PZ (show w.heap.size≤w3.heap.size from GU.out));have XB:=qd zu;have HBI:=qd Jt;have Xz:=hb4.size;have afg:=kN.out.size;have hzb:w.heap.size≤w3.heap.size:=GU.out;clear PZ hb4 P5 zu Jt p8;go_wp2;clear GU;go_loopw [9,11,46] (fun v9 _ v46 wr=>∃(i:Nat) (D:List Nat),i≤aL.length∧Hid (D=e1++fT left a2 (aL.take i))∧v46= .int .i64 (i:Int)∧Hid (bq W0 E P At s w F0 wr b2 (gY left a2 (aL.take i)++aL.drop i) a2 F2 x2)∧wr.ownsRow w.heap.size 3 1 v9 D.length (cZ D)∧Hid (wr.ownsRow w.heap.size 3 1 (.slice AI aL.length cI) aL.length (cZ aL))∧Hid (ny P s F2 v9)∧Hid (∀g,v9.ownBlock=some g→(Value.slice AI aL.length cI).ownBlock≠some g)∧D.length≤e1.length+i) (fun _ _ v46 _=>aL.length-(intOf v46).toNat)
 case atStart=>exact⟨0,e1,by omega,qd (by simp[fT]),rfl,by simpa[gY]using kN,rU.out,sV,PY,XB,by omega⟩
 case round=>
  clear rU kN sV PY XB;obtain⟨i,D,hi,HD,rfl,HS,hO,sV,Eb,P6,hdl⟩:=hrel;obtain⟨A,vc,rfl⟩:=aH hO;have HO:=qd hO;clear hO;by_cases hlt:i<aL.length
  ·have hlt':(i:Int)<(aL.length:Int):=by omega
   have hi0:(0:Int)≤(i:Int):=by omega
   have adD:(i:Int)≤41:=by have:=hlen.out;omega
   obtain⟨id,hid⟩:∃id,aL[i]?=some id:=⟨_,List.getElem?_eq_getElem hlt⟩;obtain⟨g,XC,hge,hgl,hce,_⟩:=mF sV.out hid;have mI:=UN.out id (List.mem_of_getElem? hid);have hl:=HP.BQ HS.out.pool mI.1;have HJ:=qd (HP.PN mI.1);obtain⟨Fl,yF⟩:∃Fl,Fl=jw (jt id):=⟨_,rfl⟩;rw[←yF]at hl;have L6:=qd yF.symm;have HL:=qd hl;have FY:=qd (yD id mI.2);have pY:=qd HS.out.aC.map
   have hmem:id∈gY left a2 (aL.take i)++aL.drop i:=by rw[drop_cons hid];simp
   have HV:=qd (show jy s.val (gY left a2 (aL.take i)++aL.drop i) (id:Int)=some (.iface (jt id) (.pointer (some (ja id))))from by rw[yC hmem,hval.out]);have hle:=HP.le HS.out.pool mI.1;have dO:=qd (L8 (left:=left) (a:=a2) hid);have Ma:=qd (drop_cons hid);have DL:=qd HS.out.aC.nd;have Jp:=qd mI;have Kh:=qd hmem;obtain⟨lf,hlf⟩:∃lf,lf=left a2 id:=⟨_,rfl⟩;rw[←hlf]at HL hle;have jh:=qd hlf;have HAI:=qd XC;obtain⟨FW,FX⟩:=rQ HS.out.aC;clear hl yF mI hlf hid hmem;subst XC;go_wp2_with (at_lookup;refine wZ rfl _ _ rfl rfl pY.out _ rfl FY.out _ HV.out ?_);rw[rO HJ.out,Result.andThen_ok,rP HJ.out];rw[show jw (jt id)=Fl from L6.out];rw[Oper.upon_enter];refine HL.out.mono ?_;rintro x w5 ⟨rfl,hb5⟩;replace HS:=qd (HS.out.below HP hb5);replace HO:=qB hb5 HO;replace sV:=qB hb5 sV;clear HL FW FX hb5 L6 pY hce;rcases Nat.eq_zero_or_pos lf with h0|h1
   ·subst h0;have PV:=qd (show left a2 id=0 from jh.out.symm);have HR:=qd (BR HP s F0 F2 b2 _ a2 x2 id Kh.out Jp.out.2 w5 HS.out);unfold eG at HR;simp only[Int.ofNat_zero]at*;go_wp2_with fail;refine HR.out.mono ?_;rintro x w6 ⟨rfl,hs6,oo⟩;have XD:=jI HO.out oo (fun g hg hq=>Eb.out g hg (by simp[hq]));have GV:=jI sV.out oo (fun g hg hq=>HRI.out g hg (by simp[hq]))
    have P7:bq W0 E P At s w F0 w6 b2 (gY left a2 (aL.take (i+1))++aL.drop (i+1)) a2 F2 x2:=by
     have hnd:=DL.out;rw[Ma.out]at hs6 hnd;rw[L9 (fun hh=>(List.nodup_append.1 hnd).2.2 id hh id (by simp) rfl)]at hs6;rw[dO.out.1,if_pos PV.out,List.append_nil];exact hs6
    have HS6:=qd P7;have aax:=qd GV;have hz6:=hs6.size;have P8:∀g',(Value.slice (some ⟨g,0,none⟩) aL.length cI).ownBlock=some g'→g'<w6.heap.size:=fun g' hg'=>(GV.lt g' hg').2;have aay:=qd P8;clear HS HO HR sV hs6 P7 oo GV P8
    have adB:D.length+1≤100:=by have:=hlen.out;omega
    go_wp2_with (at_builtin;refine aB rfl rfl yB XD rfl rfl rfl rfl rfl (by omega) (by omega) ?_;intro v4 w7 dh gN;obtain⟨A4,c4,rfl⟩:=aH dh);obtain⟨hs7,aaz⟩:=HS6.out.app HP XD (Nat.le_refl _) Eb.out gN
    have aaA:=aax.out.kept gN.kV (.inr (by
     intro he;have hee:∃g',(Value.slice (some ⟨g,0,none⟩) aL.length cI).ownBlock=some g':=⟨g,rfl⟩;obtain⟨g',hg'⟩:=hee
     exact P6.out g' (by rw[←he];exact hg') hg'))
    have aaB:∀g',(Value.slice A4 (D.length+1) c4).ownBlock=some g'→(Value.slice (some ⟨g,0,none⟩) aL.length cI).ownBlock≠some g':=fun g' hg' he=>by
     rcases gN.at_ with h1|⟨g2,h1,h2⟩
     ·exact P6.out g' (h1▸hg') he
     ·have:=aay.out g' he;rw[h1]at hg'
      injection hg' with hg'
      omega
    go_roundw
    case rel=>exact⟨i+1,D++[id],by omega,qd (by rw[dO.out.2,if_pos PV.out,HD.out,List.append_assoc]),by go_num,qd hs7,by simpa[cZ]using dh,qd aaA,qd (by simpa using aaz),qd (by simpa using aaB),by simp;omega⟩
    case measure=>simp[intOf];omega
   ·have hl1:¬(lf:Int)<1:=by omega
    have hne:¬left a2 id=0:=by rw[←jh.out];omega
    have mV:=qd hne;have hs5:=HS.out;rw[Ma.out]at hs5;have WC:=qd (show bq W0 E P At s w F0 w5 b2 (gY left a2 (aL.take (i+1))++aL.drop (i+1)) a2 F2 x2 from by rw[dO.out.1,if_neg hne,List.append_assoc];exact hs5);clear hs5 hne HS;go_wp2;go_roundw
    case rel=>exact⟨i+1,D,by omega,qd (by rw[dO.out.2,if_neg mV.out,List.append_nil];exact HD.out),by go_num,WC,HO.out,sV,Eb,P6,by omega⟩
    case measure=>simp[intOf];omega
  ·obtain rfl:i=aL.length:=by omega
   have hlt':¬(aL.length:Int)<(aL.length:Int):=by omega
   have ht:aL.take aL.length=aL:=List.take_length;have hd:aL.drop aL.length=[]:=List.drop_length;rw[ht,hd,List.append_nil]at HS;rw[ht]at HD;clear ht hd;rw[HD.out]at HO Eb⊢;go_wp2;go_ret;have D9:=HO.out;have XE:=Eb.out;rw[List.length_append]at D9 XE;exact⟨A,vc,e1,aL,a,a2,rfl,D9,aav.out,aaw.out,F2,x2,⟨b2,HS.out⟩,PX.out.mono (by omega) (by omega),XE⟩
theorem Ki {W0:World}{E:Nat→Addr}{P:MP}{α:Type}{jt:Nat→TypeId}{ja:Nat→Addr}{At:World→List Nat→α→Prop}{can:α→Nat→Prop}{left:α→Nat→Nat}{Stp:α→Nat→α→Prop}(HP:iI W0 E P jt ja At can left Stp)(s:SP)(F:List Nat)(K:Nat)(hK:1≤K∧K≤64)(hk:s.k=(K:Int))(b:Int)(ids:List Nat)(a:α)(x:bJ)(own:Nat)(lJ:own≤1000)(hin:own∈ids)(hval:∀id,s.val id= .iface (jt id) (.pointer (some (ja id))))(hcan:∀id∈ids,can a id∧id≤1000)(w:World)(h:bq W0 E P At s w F w b ids a F x):
  Calls Tryz.prog 101 #[eG s.sb,mH P,.int .i64 (own:Int)] w fun e w'=>∃A cc e1 bK a1 a2 F' x' b',e= .returned (.slice A (e1++fT left a2 bK).length cc)∧w'.ownsRow w.heap.size 3 1 (.slice A (e1++fT left a2 bK).length cc) (e1++fT left a2 bK).length (cZ (e1++fT left a2 bK))∧vK left Stp ids own (8*K) a a1∧sS left Stp K ids a1 e1 bK a2∧bq W0 E P At s w F w' b' (gY left a2 bK) a2 F' x'∧dV x x' 0 (9*K)∧ny P s F' (.slice A (e1++fT left a2 bK).length cc):=by
 have hval:=qd hval;have hlen:=qd h.aC.many;have H0:=qd h;have GL:=qd hcan;have AO:=qd hin;obtain⟨F0,LZ⟩:∃F0,F0=F:=⟨_,rfl⟩
 have hk':1≤s.k∧s.k≤64:=by omega
 have hk8:0≤8*s.k∧8*s.k≤1000:=by omega
 have XA:8*s.k=((8*K:Nat):Int):=by rw[hk];omega
 have HK8:=qd XA;have Jr:=qd hk;have FY:=qd (yD own lJ);unfold eG mH;clear h hcan hin XA hk;rw[←LZ]at H0⊢;clear LZ;go_in;have HS:=H0;have jB:=qd (Pz s.k 1 1 (by omega) w);unfold kR at jB;obtain⟨sp,hsb⟩:=HS.out.aC.blk;have k0:=aj.cell hsb 0;have k1:=aj.cell hsb 1;have k2:=aj.cell hsb 2;have k4:=aj.cell hsb 4;simp only[gl]at k0 k1 k2 k4;clear hsb;go_wp2_with fail;refine jB.out.mono ?_;rintro x w1 ⟨rfl,hb⟩;replace HS:=qd (HS.out.below HP hb);clear k0 k1 k2 k4 hb jB;have kG:=qd (BS HP s F0 F0 b (8*s.k) hk8 ids a x w1 HS.out);unfold eG at kG;go_wp2_with fail;refine kG.out.mono ?_;rintro z w2 ⟨rfl,hs⟩;clear HS kG;have HS:=qd (show bq W0 E P At s w F0 w2 ((8*K:Nat):Int) ids a F0 x from by rw[←HK8.out];exact hs);clear hs H0;obtain⟨sp,hsb⟩:=HS.out.aC.blk;have k0:=aj.cell hsb 0;have k1:=aj.cell hsb 1;have k2:=aj.cell hsb 2;have k4:=aj.cell hsb 4;simp only[gl]at k0 k1 k2 k4;clear hsb;have pY:=qd HS.out.aC.map;have HV:=qd (show jy s.val ids (own:Int)=some (.iface (jt own) (.pointer (some (ja own))))from by rw[yC AO.out,hval.out]);go_wp2_with (at_lookup;refine Cx rfl _ _ rfl rfl pY.out _ rfl FY.out ?_;rw[HV.out]);clear k0 k1 k2 k4 pY HV
 have h8K:8*K≤512:=by omega
 go_loopw [] (fun wr=>∃(n c:Nat) (a1:α) (F1:List Nat) (x1:bJ),Hid (n+c=8*K)∧Hid (bq W0 E P At s w F0 wr (c:Int) ids a1 F1 x1)∧Hid (Kg Stp own n a a1)∧Hid (dV x x1 0 n)) (fun wr=>EN s.sb s.qb wr)
 case atStart=>exact⟨0,8*K,a,F0,x,qd (by omega),HS,qd rfl,qd (dV.refl x)⟩
 case round=>
  clear HS;obtain⟨n,c,a1,F1,x1,HN,HS,jT,GR⟩:=hrel
  have hc8:c≤512:=by have:=HN.out;omega
  have hn8:n≤8*K:=by have:=HN.out;omega
  have Jp:=qd (GQ HP jT.out (GL.out own AO.out).1);have HMe:=qd HS.out.aC.meas;have UO:=qd (aau HP s F0 F1 c (by omega) ids a1 x1 own Jp.out wr HS.out);unfold eG mH at UO;go_wp2_with fail;refine UO.out.mono ?_;rintro e V (⟨rfl,a3,F3,x3,hc1,hst,hco,hs⟩|⟨rfl,hor,hs⟩)
  ·have kN:=qd hs;have afh:=qd (show Kg Stp own (n+1) a a3 from⟨a1,jT.out,hst⟩);have afi:=qd (GR.out.trans hco);clear HS hs hst hco UO;go_wp2;go_roundw
   case rel=>exact⟨n+1,c-1,a3,F3,x3,qd (by have:=HN.out;omega),kN,afh,qd (afi.out.mono (by omega) (by omega))⟩
   case measure=>rw[HMe.out,kN.out.aC.meas];omega
  ·replace HS:=qd hs;have aav:=qd (show vK left Stp ids own (8*K) a a1 from .inr ⟨AO.out,n,jT.out,hn8,by have:=HN.out;rcases hor with h1|h1;exact .inr h1;left;omega⟩);have Js:∀id∈ids,can a1 id∧id≤1000:=fun id hid=>⟨GQ HP jT.out (GL.out id hid).1,(GL.out id hid).2⟩;clear hs hor UO jT HMe HN Jp;have BU:=qd Js;clear Js;have jB:=qd (Jg s.k 1 1 (by omega) V);unfold kR at jB;obtain⟨sp,hsb⟩:=HS.out.aC.blk;have k0:=aj.cell hsb 0;have k1:=aj.cell hsb 1;have k2:=aj.cell hsb 2;have k4:=aj.cell hsb 4;simp only[gl]at k0 k1 k2 k4;clear hsb;go_wp2_with fail;refine jB.out.mono ?_;rintro x w1 ⟨rfl,hb⟩;replace HS:=qd (HS.out.below HP hb);clear k0 k1 k2 k4 hb jB;have kG:=qd (BS HP s F0 F1 (c:Int) s.k (by omega) ids a1 x1 w1 HS.out);unfold eG at kG;go_wp2_with fail;refine kG.out.mono ?_;rintro x w2 ⟨rfl,hs⟩;clear HS kG;have HS:=qd (show bq W0 E P At s w F0 w2 ((K:Nat):Int) ids a1 F1 x1 from by rw[←Jr.out];exact hs);clear hs;have FZ:=qd (D8 HP s F1 K (by omega) ids a1 x1 hval.out BU.out w2 HS.out.again);unfold eG mH at FZ;go_wp2_with fail;refine FZ.out.mono ?_;rintro x w3 ⟨A9,c9,e1,aL,a2,F2,x2,b2,rfl,D9,hoth,hs3,Ea,PW⟩;have kN:=qd (HS.out.chain hs3);have GU:=qd kN.out.size;have PX:=qd (GR.out.trans Ea);have aaw:=qd hoth;have rU:=qd (qK D9 HS.out.size);have PY:=qd PW;have UN:=qd (fun i (hi:i∈aL)=>And.intro (SA HP hoth (BU.out i (by rw[rR hoth];simp[hi])).1) (BU.out i (by rw[rR hoth];simp[hi])).2)
   have hel:e1.length+aL.length=ids.length:=by rw[rR hoth,List.length_append]
   clear HS D9 hoth hs3 Ea PW FZ;have p8:=qd (LV s.sb s.qb s.rb s.jb s.k b2 s.val aL w3 kN.out.aC);unfold eG at p8;go_wp2_with fail;refine p8.out.mono ?_;rintro x w4 ⟨AI,cI,rfl,PZ,hb4⟩;have Jt:∀g,(Value.slice AI aL.length cI).ownBlock=some g→w3.heap.size≤g:=fun g hg=>(PZ.lt g hg).1
   have zu:∀g,(Value.slice A9 e1.length c9).ownBlock=some g→(Value.slice AI aL.length cI).ownBlock≠some g:=fun g hg he=>by
    have h1:=(rU.out.lt g hg).2;have h2:=Jt g he;omega
   have P5:ny P s F2 (.slice AI aL.length cI):=fun g hg hq=>by
    have h1:=kN.out.iE HP g hq;have h2:=Jt g hg;omega
   replace kN:=qd (kN.out.below HP hb4);replace rU:=qB hb4 rU;have HRI:=qd P5;have sV:=qd (qK PZ (show w.heap.size≤w3.heap.size from GU.out));have XB:=qd zu;have HBI:=qd Jt;have Xz:=hb4.size;have afg:=kN.out.size;have hzb:w.heap.size≤w3.heap.size:=GU.out;clear PZ hb4 P5 zu Jt p8;go_wp2;clear GU;go_loopw [9,11,46] (fun v9 _ v46 wr=>∃(i:Nat) (D:List Nat),i≤aL.length∧Hid (D=e1++fT left a2 (aL.take i))∧v46= .int .i64 (i:Int)∧Hid (bq W0 E P At s w F0 wr b2 (gY left a2 (aL.take i)++aL.drop i) a2 F2 x2)∧wr.ownsRow w.heap.size 3 1 v9 D.length (cZ D)∧Hid (wr.ownsRow w.heap.size 3 1 (.slice AI aL.length cI) aL.length (cZ aL))∧Hid (ny P s F2 v9)∧Hid (∀g,v9.ownBlock=some g→(Value.slice AI aL.length cI).ownBlock≠some g)∧D.length≤e1.length+i) (fun _ _ v46 _=>aL.length-(intOf v46).toNat)
   case atStart=>exact⟨0,e1,by omega,qd (by simp[fT]),rfl,by simpa[gY]using kN,rU.out,sV,PY,XB,by omega⟩
   case round=>
    clear rU kN sV PY XB;obtain⟨i,D,hi,HD,rfl,HS,hO,sV,Eb,P6,hdl⟩:=hrel;obtain⟨A,vc,rfl⟩:=aH hO;have HO:=qd hO;clear hO;by_cases hlt:i<aL.length
    ·have hlt':(i:Int)<(aL.length:Int):=by omega
     have hi0:(0:Int)≤(i:Int):=by omega
     have adD:(i:Int)≤41:=by have:=hlen.out;omega
     obtain⟨id,hid⟩:∃id,aL[i]?=some id:=⟨_,List.getElem?_eq_getElem hlt⟩;obtain⟨g,XC,hge,hgl,hce,_⟩:=mF sV.out hid;have mI:=UN.out id (List.mem_of_getElem? hid);have hl:=HP.BQ HS.out.pool mI.1;have HJ:=qd (HP.PN mI.1);obtain⟨Fl,yF⟩:∃Fl,Fl=jw (jt id):=⟨_,rfl⟩;rw[←yF]at hl;have L6:=qd yF.symm;have HL:=qd hl;have FY:=qd (yD id mI.2);have pY:=qd HS.out.aC.map
     have hmem:id∈gY left a2 (aL.take i)++aL.drop i:=by rw[drop_cons hid];simp
     have HV:=qd (show jy s.val (gY left a2 (aL.take i)++aL.drop i) (id:Int)=some (.iface (jt id) (.pointer (some (ja id))))from by rw[yC hmem,hval.out]);have hle:=HP.le HS.out.pool mI.1;have dO:=qd (L8 (left:=left) (a:=a2) hid);have Ma:=qd (drop_cons hid);have DL:=qd HS.out.aC.nd;have Jp:=qd mI;have Kh:=qd hmem;obtain⟨lf,hlf⟩:∃lf,lf=left a2 id:=⟨_,rfl⟩;rw[←hlf]at HL hle;have jh:=qd hlf;have HAI:=qd XC;obtain⟨FW,FX⟩:=rQ HS.out.aC;clear hl yF mI hlf hid hmem;subst XC;go_wp2_with (at_lookup;refine wZ rfl _ _ rfl rfl pY.out _ rfl FY.out _ HV.out ?_);rw[rO HJ.out,Result.andThen_ok,rP HJ.out];rw[show jw (jt id)=Fl from L6.out];rw[Oper.upon_enter];refine HL.out.mono ?_;rintro x w5 ⟨rfl,hb5⟩;replace HS:=qd (HS.out.below HP hb5);replace HO:=qB hb5 HO;replace sV:=qB hb5 sV;clear HL FW FX hb5 L6 pY hce;rcases Nat.eq_zero_or_pos lf with h0|h1
     ·subst h0;have PV:=qd (show left a2 id=0 from jh.out.symm);have HR:=qd (BR HP s F0 F2 b2 _ a2 x2 id Kh.out Jp.out.2 w5 HS.out);unfold eG at HR;simp only[Int.ofNat_zero]at*;go_wp2_with fail;refine HR.out.mono ?_;rintro x w6 ⟨rfl,hs6,oo⟩;have XD:=jI HO.out oo (fun g hg hq=>Eb.out g hg (by simp[hq]));have GV:=jI sV.out oo (fun g hg hq=>HRI.out g hg (by simp[hq]))
      have P7:bq W0 E P At s w F0 w6 b2 (gY left a2 (aL.take (i+1))++aL.drop (i+1)) a2 F2 x2:=by
       have hnd:=DL.out;rw[Ma.out]at hs6 hnd;rw[L9 (fun hh=>(List.nodup_append.1 hnd).2.2 id hh id (by simp) rfl)]at hs6;rw[dO.out.1,if_pos PV.out,List.append_nil];exact hs6
      have HS6:=qd P7;have aax:=qd GV;have hz6:=hs6.size;have P8:∀g',(Value.slice (some ⟨g,0,none⟩) aL.length cI).ownBlock=some g'→g'<w6.heap.size:=fun g' hg'=>(GV.lt g' hg').2;have aay:=qd P8;clear HS HO HR sV hs6 P7 oo GV P8
      have adB:D.length+1≤100:=by have:=hlen.out;omega
      go_wp2_with (at_builtin;refine aB rfl rfl yB XD rfl rfl rfl rfl rfl (by omega) (by omega) ?_;intro v4 w7 dh gN;obtain⟨A4,c4,rfl⟩:=aH dh);obtain⟨hs7,aaz⟩:=HS6.out.app HP XD (Nat.le_refl _) Eb.out gN
      have aaA:=aax.out.kept gN.kV (.inr (by
       intro he;have hee:∃g',(Value.slice (some ⟨g,0,none⟩) aL.length cI).ownBlock=some g':=⟨g,rfl⟩;obtain⟨g',hg'⟩:=hee
       exact P6.out g' (by rw[←he];exact hg') hg'))
      have aaB:∀g',(Value.slice A4 (D.length+1) c4).ownBlock=some g'→(Value.slice (some ⟨g,0,none⟩) aL.length cI).ownBlock≠some g':=fun g' hg' he=>by
       rcases gN.at_ with h1|⟨g2,h1,h2⟩
       ·exact P6.out g' (h1▸hg') he
       ·have:=aay.out g' he;rw[h1]at hg'
        injection hg' with hg'
        omega
      go_roundw
      case rel=>exact⟨i+1,D++[id],by omega,qd (by rw[dO.out.2,if_pos PV.out,HD.out,List.append_assoc]),by go_num,qd hs7,by simpa[cZ]using dh,qd aaA,qd (by simpa using aaz),qd (by simpa using aaB),by simp;omega⟩
      case measure=>simp[intOf];omega
     ·have hl1:¬(lf:Int)<1:=by omega
      have hne:¬left a2 id=0:=by rw[←jh.out];omega
      have mV:=qd hne;have hs5:=HS.out;rw[Ma.out]at hs5;have WC:=qd (show bq W0 E P At s w F0 w5 b2 (gY left a2 (aL.take (i+1))++aL.drop (i+1)) a2 F2 x2 from by rw[dO.out.1,if_neg hne,List.append_assoc];exact hs5);clear hs5 hne HS;go_wp2;go_roundw
      case rel=>exact⟨i+1,D,by omega,qd (by rw[dO.out.2,if_neg mV.out,List.append_nil];exact HD.out),by go_num,WC,HO.out,sV,Eb,P6,by omega⟩
      case measure=>simp[intOf];omega
    ·obtain rfl:i=aL.length:=by omega
     have hlt':¬(aL.length:Int)<(aL.length:Int):=by omega
     have ht:aL.take aL.length=aL:=List.take_length;have hd:aL.drop aL.length=[]:=List.drop_length;rw[ht,hd,List.append_nil]at HS;rw[ht]at HD;clear ht hd;rw[HD.out]at HO Eb⊢;go_wp2;go_ret;have D9:=HO.out;have XE:=Eb.out;rw[List.length_append]at D9 XE;exact⟨A,vc,e1,aL,a1,a2,rfl,D9,aav.out,aaw.out,F2,x2,⟨b2,HS.out⟩,PX.out.mono (by omega) (by omega),XE⟩
end
end Go.Proofs.YtjfgpnapccdnlaaGreatDoor
