/- A scheduler's others by its contract. -/
import Derived.Test.YtgiaobmcbbfmnaaGreatDoorCoBU
import Derived.Test.YtgiaobmcbbfmnaaGreatDoorKit2
import Derived.Test.YtgiaobmcbbfmnaaGreatDoorSq
namespace Go.Proofs.YtgiaobmcbbfmnaaGreatDoor
set_option maxRecDepth 100000
set_option maxHeartbeats 8000000
open Go.RowKit dw
section
variable {w : World} {jb qb rb sb : Nat} {b k : Int} {val : Nat → Value} {ids : List Nat}
def Ue (w:World)(p:Addr):Nat:=match w.cell? p with|some (.int _ n)=>n.toNat|_=>0
def ED (sb qb:Nat)(w:World):Nat:=Ue w ⟨sb,5,none⟩+Ue w ⟨qb,2,none⟩
theorem dS.meas {c:Nat}(h:dS w sb qb rb jb k (c:Int) val ids):ED sb qb w=c+ids.length:=by
 obtain⟨s,h1⟩:=h.blk;obtain⟨ring,first,h2⟩:=h.DU;have c5:=aj.cell h1 5;have c2:=h2.blk.cell 2;simp only[gl]at c5 c2;unfold ED Ue;rw[c5,c2];simp
theorem rR (h:dS w sb qb rb jb k b val ids):w.cell? ⟨sb,3,none⟩=some (.pointer (some ⟨qb,0,none⟩))∧w.cell? ⟨sb,4,none⟩=some (.map (some jb)):=by
 obtain⟨s,h1⟩:=h.blk;exact⟨aj.cell h1 3,aj.cell h1 4⟩
theorem dS.head {id:Nat}(h:dS w sb qb rb jb k b val (id::ids)):Calls Tryz.prog 218 #[.pointer (some ⟨qb,0,none⟩)] w fun e w'=>e= .returned (.tuple #[.int .i64 (id:Int),.bool true])∧w.drew=w':=by
 obtain⟨ring,first,h2⟩:=h.DU
 exact TT qb rb ring first id ids w h2
theorem dS.abH (h:dS w sb qb rb jb k b val []):Calls Tryz.prog 218 #[.pointer (some ⟨qb,0,none⟩)] w fun e w'=>e= .returned (.tuple #[.int .i64 0,.bool false])∧w=w':=by
 obtain⟨ring,first,h2⟩:=h.DU
 exact MG qb rb ring first [] w h2
theorem dS.balance (h:dS w sb qb rb jb k b val ids):Calls Tryz.prog 219 #[.pointer (some ⟨sb,5,none⟩)] w fun e w'=>e= .returned (.int .i64 b)∧w=w':=by
 obtain⟨s,h1⟩:=h.blk;exact JX sb b w h1
theorem D5 {W0:World}{E:Nat→Addr}{P:MP}{α:Type}{jt:Nat→TypeId}{ja:Nat→Addr}{At:World→List Nat→α→Prop}{can:α→Nat→Prop}{left:α→Nat→Nat}{Stp:α→Nat→α→Prop}(HP:iH W0 E P jt ja At can left Stp)(s:SP)(F:List Nat)(c0:Nat)(hc:c0≤64)(ids:List Nat)(a:α)(x:bH)(hval:∀id,s.val id= .iface (jt id) (.pointer (some (ja id))))(hcan:∀id∈ids,can a id∧id≤1000)(w:World)(h:aZ W0 E P At s w F w (c0:Int) ids a F x):
  Calls Tryz.prog 163 #[eO s.sb,mg P] w fun e w'=>∃A cc ended aO a' F' x' b',e= .returned (.slice A ended.length cc)∧w'.ownsRow w.heap.size 3 1 (.slice A ended.length cc) ended.length (bP ended)∧tu left Stp c0 ids a ended aO a'∧aZ W0 E P At s w F w' b' aO a' F' x'∧dN x x' 0 c0∧ng P s F' (.slice A ended.length cc):=by
 have hval:=qd hval;have hlen:=qd h.aB.many;have H0:=qd h;have Gy:=qd hcan;obtain⟨F0,LB⟩:∃F0,F0=F:=⟨_,rfl⟩;unfold eO mg;clear h hcan;rw[←LB]at H0⊢;clear LB;go_in;go_wp2;go_loopw [5,6,7] (fun v5 _ _ wr=>∃(c:Nat) (bF e1:List Nat) (a1:α) (F1:List Nat) (x1:bH) (u:Nat),Hid (aZ W0 E P At s w F0 wr (c:Int) bF a1 F1 x1)∧wr.ownsRow w.heap.size 3 1 v5 e1.length (bP e1)∧Hid (∀e aO a',tu left Stp c bF a1 e aO a'→tu left Stp c0 ids a (e1++e) aO a')∧(u+c=c0∧e1.length+bF.length=ids.length)∧(∀id∈bF,can a1 id∧id≤1000)∧dN x x1 0 u∧Hid (ng P s F1 v5)) (fun _ _ _ wr=>ED s.sb s.qb wr)
 case atStart=>exact⟨c0,ids,[],a,F0,x,0,H0,⟨rfl,.inl ⟨rfl,rfl⟩⟩,qd (fun _ _ _ h=>h),⟨by omega,by simp⟩,Gy.out,dN.refl x,qd (fun g hg=>by cases hg)⟩
 case round=>
  obtain⟨c,bF,e1,a1,F1,x1,u,HS,hO,hK,hu,hcan,hCo,RV⟩:=hrel;obtain⟨A,vc,rfl⟩:=bA hO;have hE1:=HS.out.aB.many;have HM0:=qd HS.out.aB.meas;obtain⟨hu,hE2⟩:=hu;rcases bF with _|⟨id,bF⟩
  ·have HH:=qd HS.out.aB.abH;have HF:=qd (hK.out _ _ _ (tu.nil c a1));have HO:=qd hO;have HC:=qd hCo
   have hu2:u≤c0:=by omega
   obtain⟨FK,FL⟩:=rR HS.out.aB;clear hO hCo hcan;go_wp2_with fail;refine HH.out.mono ?_;rintro x w1 ⟨rfl,rfl⟩;go_wp2;go_ret;exact⟨A,vc,e1,[],a1,F1,x1,_,rfl,HO.out,by simpa using HF.out,HS.out,HC.out.mono (Nat.le_refl _) hu2,RV.out⟩
  ·have HH:=qd HS.out.aB.head;obtain⟨FK,FL⟩:=rR HS.out.aB;have HO:=qd hO;have HC:=qd hCo;have Uf:=qd hcan;have hlo:=hO.lt;clear hO hCo hcan;go_wp2_with fail;refine HH.out.mono ?_;rintro x w1 ⟨rfl,hdr⟩;have hb1:Below wr.heap.size wr w1:=hdr▸(Below.refl _ _).drew;clear hdr;replace HS:=qd (HS.out.below HP hb1);replace HO:=qB hb1 HO;clear FK FL HH;obtain⟨FK,FL⟩:=rR HS.out.aB;have HB:=qd HS.out.aB.balance;go_wp2_with fail;refine HB.out.mono ?_;rintro x w2 ⟨rfl,rfl⟩;rcases c with _|c
   ·have HF:=qd (hK.out _ _ _ (tu.broke (id::bF) a1))
    have hu2:u≤c0:=by omega
    clear hK HB;simp only[Int.ofNat_zero]at*;go_wp2;go_ret;exact⟨A,vc,e1,_,a1,F1,x1,_,rfl,HO.out,by simpa using HF.out,HS.out,HC.out.mono (Nat.le_refl _) hu2,RV.out⟩
   ·have hc0:¬((c+1:Nat):Int)=0:=by omega
    have mh:=Uf.out id (by simp);have hl:=HP.xq HS.out.pool mh.1;have HJ:=qd (HP.Pn mh.1);obtain⟨Fl,yH⟩:∃Fl,Fl=jk (jt id):=⟨_,rfl⟩;rw[←yH]at hl;have LC:=qd yH.symm;have HL:=qd hl;have FM:=qd (yF id mh.2);have kD:=qd HS.out.aB.map;have HV:=qd (show jl s.val (id::bF) (id:Int)=some (.iface (jt id) (.pointer (some (ja id))))from by rw[yE (by simp),hval.out]);have hle:=HP.le HS.out.pool mh.1;have Jd:=qd mh;obtain⟨lf,hlf⟩:∃lf,lf=left a1 id:=⟨_,rfl⟩;rw[←hlf]at HL hle;have iY:=qd hlf;clear hl yH mh HB hlf;go_wp2_with (at_lookup;refine wZ rfl _ _ rfl rfl kD.out _ rfl FM.out _ HV.out ?_);rw[rP HJ.out,Result.andThen_ok,rQ HJ.out];rw[show jk (jt id)=Fl from LC.out];rw[Oper.upon_enter];refine HL.out.mono ?_;rintro x w3 ⟨rfl,hb3⟩;replace HS:=qd (HS.out.below HP hb3);replace HO:=qB hb3 HO;replace kD:=qd HS.out.aB.map;have ad5:=HS.out.size;clear HL FK FL hb3 LC;obtain⟨FK,FL⟩:=rR HS.out.aB;rcases Nat.eq_zero_or_pos lf with h0|h1
    ·subst h0;have Pt:=qd (show left a1 id=0 from iY.out.symm);have HR:=qd (BK HP s F0 F1 ((c+1:Nat):Int) (id::bF) a1 x1 id (by simp) Jd.out.2 w3 HS.out);simp only[List.erase_cons_head]at HR;simp only[Int.ofNat_zero]at*;go_wp2_with fail;refine HR.out.mono ?_;rintro x w4 ⟨rfl,hs4,ku⟩;have hO4:=fV HO.out ku (fun g hg hq=>RV.out g hg (by simp[hq]));have hz4:=ku.size;clear ku HS HO HR FK FL kD;have ad9:=hs4.size;have HS4:=qd hs4;clear hs4
     have acF:e1.length+1≤100:=by have:=hlen.out;omega
     go_wp2_with (at_builtin;refine iD rfl rfl yD hO4 rfl rfl rfl rfl rfl (by omega) (by omega) ?_;intro v4 w5 dh gV;obtain⟨A4,c4,rfl⟩:=bA dh);obtain⟨hs5,aeh⟩:=HS4.out.app HP hO4 (Nat.le_refl _) RV.out gV;go_roundw
     case rel=>exact⟨c+1,bF,e1++[id],a1,F1,x1,u,qd hs5,by simpa[bP]using dh,qd (fun e aO a' hh=>by rw[List.append_assoc];exact hK.out _ _ _ (.ended Pt.out hh)),⟨by omega,by simp at hE2⊢;omega⟩,fun i hi=>Uf.out i (by simp[hi]),HC.out,qd (by simpa using aeh)⟩
     case measure=>
      rw[hs5.aB.meas,HM0.out];simp
    ·have hl1:¬(lf:Int)<1:=by omega
     have kC:=qd (Po HP s F0 F1 c (by omega) (id::bF) a1 x1 id Jd.out.1 (by rw[←iY.out];exact h1) w3 HS.out);unfold mg at kC;go_wp2_with (at_lookup;refine wZ rfl _ _ rfl rfl kD.out _ rfl FM.out _ HV.out ?_);refine kC.out.mono ?_;rintro x w4 ⟨rfl,a2,F2,x2,hst,hco,hs4,hF2,ku⟩;have hO4:=fV HO.out ku RV.out;have acG:=RV.out.step HO.out hF2;have Gz:=qd (And.intro hs4 (And.intro hO4 (And.intro acG (And.intro hst hco))));have hz4:=ku.size;clear hs4 hO4 acG hst hco ku hF2;go_wp2;go_roundw
     case rel=>exact⟨c,id::bF,e1,a2,F2,x2,u+1,qd Gz.out.1,Gz.out.2.1,qd (fun e aO a' hh=>hK.out _ _ _ (.step (by rw[←iY.out];exact h1) Gz.out.2.2.2.1 hh)),⟨by omega,by omega⟩,fun i hi=>⟨HP.gG Gz.out.2.2.2.1 (Uf.out i hi).1,(Uf.out i hi).2⟩,(HC.out.trans Gz.out.2.2.2.2).mono (by omega) (by omega),qd Gz.out.2.2.1⟩
     case measure=>
      rw[Gz.out.1.aB.meas,HM0.out];omega
end
section
variable {c i id j : Nat} {e aO : List Nat}
def JY {α:Type}(Stp:α→Nat→α→Prop)(id:Nat):Nat→α→α→Prop
 |0,a,a'=>a=a'
 |n+1,a,a'=>∃b,JY Stp id n a b∧Stp b id a'
def vR {α:Type}(left:α→Nat→Nat)(Stp:α→Nat→α→Prop)(ids:List Nat)(own n:Nat)(a a':α):Prop:=
 (own∉ids∧a'=a)∨(own∈ids∧∃m,JY Stp own m a a'∧m≤n∧(m=n∨left a' own=0))
def eB {α:Type}(left:α→Nat→Nat)(a:α)(ids:List Nat):List Nat:=ids.filter fun id=>left a id==0
def eD {α:Type}(left:α→Nat→Nat)(a:α)(ids:List Nat):List Nat:=ids.filter fun id=>left a id !=0
theorem GA {W0:World}{E:Nat→Addr}{P:MP}{α:Type}{jt:Nat→TypeId}{ja:Nat→Addr}{At:World→List Nat→α→Prop}{can:α→Nat→Prop}{left:α→Nat→Nat}{Stp:α→Nat→α→Prop}(HP:iH W0 E P jt ja At can left Stp):∀{n:Nat} {a a':α},JY Stp id n a a'→can a j→can a' j
 |0,_,_,h,hc=>h▸hc
 |_+1,_,_,⟨_,h1,h2⟩,hc=>HP.gG h2 (GA HP h1 hc)
theorem RX {W0:World}{E:Nat→Addr}{P:MP}{α:Type}{jt:Nat→TypeId}{ja:Nat→Addr}{At:World→List Nat→α→Prop}{can:α→Nat→Prop}{left:α→Nat→Nat}{Stp:α→Nat→α→Prop}(HP:iH W0 E P jt ja At can left Stp){ids:List Nat}{a a':α}(h:tu left Stp c ids a e aO a')(hc:can a j):can a' j:=by
 induction h with
 |nil=>exact hc
 |broke=>exact hc
 |ended _ _ ih=>exact ih hc
 |step _ hs _ ih=>exact ih (HP.gG hs hc)
theorem mq {α:Type}{left:α→Nat→Nat}{Stp:α→Nat→α→Prop}{ids:List Nat}{a a':α}(h:tu left Stp c ids a e aO a'):ids=e++aO:=by
 induction h with
 |nil=>rfl
 |broke=>rfl
 |ended _ _ ih=>rw[ih];rfl
 |step _ _ _ ih=>exact ih
theorem ZH {W0 w0:World}{E:Nat→Addr}{P:MP}{α:Type}{jt:Nat→TypeId}{ja:Nat→Addr}{At:World→List Nat→α→Prop}{can:α→Nat→Prop}{left:α→Nat→Nat}{Stp:α→Nat→α→Prop}(HP:iH W0 E P jt ja At can left Stp)(s:SP)(F0 F:List Nat)(b:Nat)(hb:b≤1000)(ids:List Nat)(a:α)(x:bH)(id:Nat)(hc:can a id)(w:World)(h:aZ W0 E P At s w0 F0 w (b:Int) ids a F x):
  Calls Tryz.prog 161 #[eO s.sb,mg P,.iface (jt id) (.pointer (some (ja id)))] w fun e w'=>(e= .returned (.bool true)∧∃a' F' x',1≤b∧Stp a id a'∧dN x x' 0 1∧aZ W0 E P At s w0 F0 w' ((b-1:Nat):Int) ids a' F' x')∨(e= .returned (.bool false)∧(left a id=0∨b=0)∧aZ W0 E P At s w0 F0 w' (b:Int) ids a F x):=by
 rcases Nat.eq_zero_or_pos (left a id)with h0|h1
 ·exact(step_done HP s F0 F b ids a x id hc h0 w h).mono fun e w' ⟨h1,h2⟩=> .inr ⟨h1,.inl h0,h.below HP h2⟩
 ·rcases b with _|b
  ·exact(Ua HP s F0 F ids a x id hc h1 w h).mono fun e w' ⟨h1,h2⟩=> .inr ⟨h1,.inr rfl,h.below HP h2⟩
  ·exact(Po HP s F0 F b (by omega) ids a x id hc h1 w h).mono fun e w' ⟨h1,a',F',x',h2,h3,h4,_⟩=> .inl ⟨h1,a',F',x',by omega,h2,h3,h4⟩
theorem LD {α:Type}{left:α→Nat→Nat}{a:α}{ids:List Nat}(h:ids[i]?=some id):eD left a (ids.take (i+1))=eD left a (ids.take i)++(if left a id=0 then []else [id])∧eB left a (ids.take (i+1))=eB left a (ids.take i)++(if left a id=0 then [id]else []):=by
 have ht:ids.take (i+1)=ids.take i++[id]:=by rw[List.take_add_one,h];rfl
 unfold eD eB;rw[ht,List.filter_append,List.filter_append]
 by_cases h0:left a id=0<;>simp[h0]
theorem drop_cons {ids:List Nat}(h:ids[i]?=some id):ids.drop i=id::ids.drop (i+1):=by
 obtain⟨hl,rfl⟩:=List.getElem?_eq_some_iff.1 h;exact List.drop_eq_getElem_cons hl
theorem LG {l r:List Nat}(h:id∉l):(l++id::r).erase id=l++r:=by
 rw[List.erase_append_right _ h,List.erase_cons_head]
section
variable {W0 w0 w w2 : World} {E : Nat → Addr} {P : MP} {α : Type} {jt : Nat → TypeId} {ja : Nat → Addr} {At : World → List Nat → α → Prop} {can : α → Nat → Prop} {left : α → Nat → Nat} {Stp : α → Nat → α → Prop} {s : SP} {F0 F F2 : List Nat} {b b2 : Int} {ids aG : List Nat} {a a2 : α} {x x2 : bH}
theorem aZ.again (h:aZ W0 E P At s w0 F0 w b ids a F x):aZ W0 E P At s w F w b ids a F x:=⟨h.aB,h.pool,h.met,h.env,h.apart,h.vQ,h.env.size,fun _ hq=> .inl hq,Mod.refl _ _⟩
theorem aZ.chain (h:aZ W0 E P At s w0 F0 w b ids a F x)(k:aZ W0 E P At s w F w2 b2 aG a2 F2 x2):aZ W0 E P At s w0 F0 w2 b2 aG a2 F2 x2:=
 ⟨k.aB,k.pool,k.met,k.env,k.apart,k.vQ,h.qy,fun q hq=>(k.sub q hq).elim (h.sub q) (fun hh=> .inr (Nat.le_trans h.size hh)),h.mod.trans k.mod (fun _ hq _=>hq) (fun q hq hl=>by
  rcases List.mem_cons.1 hq with h1|h1
  ·simp[h1]
  ·rcases List.mem_append.1 h1 with h2|h2
   ·simp[h2]
   ·rcases h.sub q h2 with h3|h3
    ·simp[h3]
    ·omega)⟩
end
theorem Je {W0:World}{E:Nat→Addr}{P:MP}{α:Type}{jt:Nat→TypeId}{ja:Nat→Addr}{At:World→List Nat→α→Prop}{can:α→Nat→Prop}{left:α→Nat→Nat}{Stp:α→Nat→α→Prop}(HP:iH W0 E P jt ja At can left Stp)(s:SP)(F:List Nat)(K:Nat)(hK:1≤K∧K≤64)(hk:s.k=(K:Int))(b:Int)(ids:List Nat)(a:α)(x:bH)(own:Nat)(jD:own≤1000)(hin:own∉ids)(hval:∀id,s.val id= .iface (jt id) (.pointer (some (ja id))))(hcan:∀id∈ids,can a id∧id≤1000)(w:World)(h:aZ W0 E P At s w F w b ids a F x):
  Calls Tryz.prog 107 #[eO s.sb,mg P,.int .i64 (own:Int)] w fun e w'=>∃A cc e1 bF a1 a2 F' x' b',e= .returned (.slice A (e1++eB left a2 bF).length cc)∧w'.ownsRow w.heap.size 3 1 (.slice A (e1++eB left a2 bF).length cc) (e1++eB left a2 bF).length (bP (e1++eB left a2 bF))∧vR left Stp ids own (8*K) a a1∧tu left Stp K ids a1 e1 bF a2∧aZ W0 E P At s w F w' b' (eD left a2 bF) a2 F' x'∧dN x x' 0 (9*K)∧ng P s F' (.slice A (e1++eB left a2 bF).length cc):=by
 have hval:=qd hval;have hlen:=qd h.aB.many;have H0:=qd h;have Gy:=qd hcan;have jE:=qd hin;obtain⟨F0,LB⟩:∃F0,F0=F:=⟨_,rfl⟩
 have hk':1≤s.k∧s.k≤64:=by omega
 have hk8:0≤8*s.k∧8*s.k≤1000:=by omega
 have WW:8*s.k=((8*K:Nat):Int):=by rw[hk];omega
 have HK8:=qd WW;have Jf:=qd hk;have FM:=qd (yF own jD);unfold eO mg;clear h hcan hin WW hk;rw[←LB]at H0⊢;clear LB;go_in;have HS:=H0;have jo:=qd (Pf s.k 1 1 (by omega) w);unfold je at jo;obtain⟨sp,hsb⟩:=HS.out.aB.blk;have k0:=aj.cell hsb 0;have k1:=aj.cell hsb 1;have k2:=aj.cell hsb 2;have k4:=aj.cell hsb 4;simp only[gl]at k0 k1 k2 k4;clear hsb;go_wp2_with fail;refine jo.out.mono ?_;rintro x w1 ⟨rfl,hb⟩;replace HS:=qd (HS.out.below HP hb);clear k0 k1 k2 k4 hb jo;have kE:=qd (BL HP s F0 F0 b (8*s.k) hk8 ids a x w1 HS.out);unfold eO at kE;go_wp2_with fail;refine kE.out.mono ?_;rintro z w2 ⟨rfl,hs⟩;clear HS kE;have HS:=qd (show aZ W0 E P At s w F0 w2 ((8*K:Nat):Int) ids a F0 x from by rw[←HK8.out];exact hs);clear hs H0;obtain⟨sp,hsb⟩:=HS.out.aB.blk;have k0:=aj.cell hsb 0;have k1:=aj.cell hsb 1;have k2:=aj.cell hsb 2;have k4:=aj.cell hsb 4;simp only[gl]at k0 k1 k2 k4;clear hsb;have kD:=qd HS.out.aB.map;have HV:=qd (show jl s.val ids (own:Int)=none from Pk jE.out);go_wp2_with (at_lookup;refine Cu rfl _ _ rfl rfl kD.out _ rfl FM.out ?_;rw[HV.out]);clear k0 k1 k2 k4 kD;have ZI:=qd (show vR left Stp ids own (8*K) a a from .inl ⟨jE.out,rfl⟩);have Jg:=Gy.out;have qm:=qd (dN.refl x);have BM:=qd Jg;clear Jg;have jo:=qd (I5 s.k 1 1 (by omega) w2);unfold je at jo;obtain⟨sp,hsb⟩:=HS.out.aB.blk;have k0:=aj.cell hsb 0;have k1:=aj.cell hsb 1;have k2:=aj.cell hsb 2;have k4:=aj.cell hsb 4;simp only[gl]at k0 k1 k2 k4;clear hsb;go_wp2_with fail;refine jo.out.mono ?_;rintro x w1 ⟨rfl,hb⟩
 replace HS:=qd (HS.out.below HP hb);clear k0 k1 k2 k4 hb jo;have kE:=qd (BL HP s F0 F0 ((8*K:Nat):Int) s.k (by omega) ids a x w1 HS.out);unfold eO at kE;go_wp2_with fail;refine kE.out.mono ?_;rintro x w2 ⟨rfl,hs⟩;clear HS kE;have HS:=qd (show aZ W0 E P At s w F0 w2 ((K:Nat):Int) ids a F0 x from by rw[←Jf.out];exact hs);clear hs;have tC:=qd (D5 HP s F0 K (by omega) ids a x hval.out BM.out w2 HS.out.again);unfold eO mg at tC;go_wp2_with fail;refine tC.out.mono ?_;rintro x w3 ⟨A9,c9,e1,aG,a2,F2,x2,b2,rfl,D6,hoth,hs3,oW,Pv⟩;have jg:=qd (HS.out.chain hs3);have GD:=qd jg.out.size;have yI:=qd (qm.out.trans oW);have ZJ:=qd hoth;have AP:=qd (qK D6 HS.out.size);have Px:=qd Pv;have Ug:=qd (fun i (hi:i∈aG)=>And.intro (RX HP hoth (BM.out i (by rw[mq hoth];simp[hi])).1) (BM.out i (by rw[mq hoth];simp[hi])).2)
 have hel:e1.length+aG.length=ids.length:=by rw[mq hoth,List.length_append]
 clear HS D6 hoth hs3 oW Pv tC;have p8:=qd (Lu s.sb s.qb s.rb s.jb s.k b2 s.val aG w3 jg.out.aB);unfold eO at p8;go_wp2_with fail;refine p8.out.mono ?_;rintro x w4 ⟨AI,cI,rfl,Py,hb4⟩;have Jh:∀g,(Value.slice AI aG.length cI).ownBlock=some g→w3.heap.size≤g:=fun g hg=>(Py.lt g hg).1
 have LH:∀g,(Value.slice A9 e1.length c9).ownBlock=some g→(Value.slice AI aG.length cI).ownBlock≠some g:=fun g hg he=>by
  have h1:=(AP.out.lt g hg).2;have h2:=Jh g he;omega
 have Pz:ng P s F2 (.slice AI aG.length cI):=fun g hg hq=>by
  have h1:=jg.out.gJ HP g hq;have h2:=Jh g hg;omega
 replace jg:=qd (jg.out.below HP hb4);replace AP:=qB hb4 AP;have HRI:=qd Pz;have tF:=qd (qK Py (show w.heap.size≤w3.heap.size from GD.out));have WX:=qd LH;have HBI:=qd Jh;have hz4:=hb4.size;have aei:=jg.out.size;have hzb:w.heap.size≤w3.heap.size:=GD.out;clear Py hb4 Pz LH Jh p8;go_wp2;clear GD;go_loopw [9,11,46] (fun v9 _ v46 wr=>∃(i:Nat) (D:List Nat),i≤aG.length∧Hid (D=e1++eB left a2 (aG.take i))∧v46= .int .i64 (i:Int)∧Hid (aZ W0 E P At s w F0 wr b2 (eD left a2 (aG.take i)++aG.drop i) a2 F2 x2)∧wr.ownsRow w.heap.size 3 1 v9 D.length (bP D)∧Hid (wr.ownsRow w.heap.size 3 1 (.slice AI aG.length cI) aG.length (bP aG))∧Hid (ng P s F2 v9)∧Hid (∀g,v9.ownBlock=some g→(Value.slice AI aG.length cI).ownBlock≠some g)∧D.length≤e1.length+i) (fun _ _ v46 _=>aG.length-(intOf v46).toNat)
 case atStart=>exact⟨0,e1,by omega,qd (by simp[eB]),rfl,by simpa[eD]using jg,AP.out,tF,Px,WX,by omega⟩
 case round=>
  clear AP jg tF Px WX;obtain⟨i,D,hi,HD,rfl,HS,hO,tF,D7,PD,hdl⟩:=hrel;obtain⟨A,vc,rfl⟩:=bA hO;have HO:=qd hO;clear hO;by_cases hlt:i<aG.length
  ·have hlt':(i:Int)<(aG.length:Int):=by omega
   have hi0:(0:Int)≤(i:Int):=by omega
   have PE:(i:Int)≤41:=by have:=hlen.out;omega
   obtain⟨id,hid⟩:∃id,aG[i]?=some id:=⟨_,List.getElem?_eq_getElem hlt⟩;obtain⟨g,WY,hge,hgl,hce,_⟩:=iM tF.out hid;have mh:=Ug.out id (List.mem_of_getElem? hid);have hl:=HP.xq HS.out.pool mh.1;have HJ:=qd (HP.Pn mh.1);obtain⟨Fl,yH⟩:∃Fl,Fl=jk (jt id):=⟨_,rfl⟩;rw[←yH]at hl;have LC:=qd yH.symm;have HL:=qd hl;have FM:=qd (yF id mh.2);have kD:=qd HS.out.aB.map
   have hmem:id∈eD left a2 (aG.take i)++aG.drop i:=by rw[drop_cons hid];simp
   have HV:=qd (show jl s.val (eD left a2 (aG.take i)++aG.drop i) (id:Int)=some (.iface (jt id) (.pointer (some (ja id))))from by rw[yE hmem,hval.out]);have hle:=HP.le HS.out.pool mh.1;have dW:=qd (LD (left:=left) (a:=a2) hid);have vS:=qd (drop_cons hid);have DI:=qd HS.out.aB.nd;have Jd:=qd mh;have JZ:=qd hmem;obtain⟨lf,hlf⟩:∃lf,lf=left a2 id:=⟨_,rfl⟩;rw[←hlf]at HL hle;have iY:=qd hlf;have HAI:=qd WY;obtain⟨FK,FL⟩:=rR HS.out.aB;clear hl yH mh hlf hid hmem;subst WY;go_wp2_with (at_lookup;refine wZ rfl _ _ rfl rfl kD.out _ rfl FM.out _ HV.out ?_);rw[rP HJ.out,Result.andThen_ok,rQ HJ.out];rw[show jk (jt id)=Fl from LC.out];rw[Oper.upon_enter];refine HL.out.mono ?_;rintro x w5 ⟨rfl,hb5⟩;replace HS:=qd (HS.out.below HP hb5);replace HO:=qB hb5 HO;replace tF:=qB hb5 tF;clear HL FK FL hb5 LC kD hce;rcases Nat.eq_zero_or_pos lf with h0|h1
   ·subst h0;have Pt:=qd (show left a2 id=0 from iY.out.symm);have HR:=qd (BK HP s F0 F2 b2 _ a2 x2 id JZ.out Jd.out.2 w5 HS.out);unfold eO at HR;simp only[Int.ofNat_zero]at*;go_wp2_with fail;refine HR.out.mono ?_;rintro x w6 ⟨rfl,hs6,nX⟩;have WZ:=fV HO.out nX (fun g hg hq=>D7.out g hg (by simp[hq]));have GH:=fV tF.out nX (fun g hg hq=>HRI.out g hg (by simp[hq]))
    have PG:aZ W0 E P At s w F0 w6 b2 (eD left a2 (aG.take (i+1))++aG.drop (i+1)) a2 F2 x2:=by
     have hnd:=DI.out;rw[vS.out]at hs6 hnd;rw[LG (fun hh=>(List.nodup_append.1 hnd).2.2 id hh id (by simp) rfl)]at hs6;rw[dW.out.1,if_pos Pt.out,List.append_nil];exact hs6
    have HS6:=qd PG;have ZK:=qd GH;have hz6:=hs6.size;have PI:∀g',(Value.slice (some ⟨g,0,none⟩) aG.length cI).ownBlock=some g'→g'<w6.heap.size:=fun g' hg'=>(GH.lt g' hg').2;have ZL:=qd PI;clear HS HO HR tF hs6 PG nX GH PI
    have acF:D.length+1≤100:=by have:=hlen.out;omega
    go_wp2_with (at_builtin;refine iD rfl rfl yD WZ rfl rfl rfl rfl rfl (by omega) (by omega) ?_;intro v4 w7 dh gV;obtain⟨A4,c4,rfl⟩:=bA dh);obtain⟨hs7,ZM⟩:=HS6.out.app HP WZ (Nat.le_refl _) D7.out gV
    have ZN:=ZK.out.kept gV.kM (.inr (by
     intro he;have hee:∃g',(Value.slice (some ⟨g,0,none⟩) aG.length cI).ownBlock=some g':=⟨g,rfl⟩;obtain⟨g',hg'⟩:=hee
     exact PD.out g' (by rw[←he];exact hg') hg'))
    have ZO:∀g',(Value.slice A4 (D.length+1) c4).ownBlock=some g'→(Value.slice (some ⟨g,0,none⟩) aG.length cI).ownBlock≠some g':=fun g' hg' he=>by
     rcases gV.at_ with h1|⟨g2,h1,h2⟩
     ·exact PD.out g' (h1▸hg') he
     ·have:=ZL.out g' he;rw[h1]at hg'
      injection hg' with hg'
      omega
    go_roundw
    case rel=>exact⟨i+1,D++[id],by omega,qd (by rw[dW.out.2,if_pos Pt.out,HD.out,List.append_assoc]),by go_num,qd hs7,by simpa[bP]using dh,qd ZN,qd (by simpa using ZM),qd (by simpa using ZO),by simp;omega⟩
    case measure=>simp[intOf];omega
   ·have hl1:¬(lf:Int)<1:=by omega
    have hne:¬left a2 id=0:=by rw[←iY.out];omega
    have mJ:=qd hne;have hs5:=HS.out;rw[vS.out]at hs5;have Ol:=qd (show aZ W0 E P At s w F0 w5 b2 (eD left a2 (aG.take (i+1))++aG.drop (i+1)) a2 F2 x2 from by rw[dW.out.1,if_neg hne,List.append_assoc];exact hs5);clear hs5 hne HS;go_wp2;go_roundw
    case rel=>exact⟨i+1,D,by omega,qd (by rw[dW.out.2,if_neg mJ.out,List.append_nil];exact HD.out),by go_num,Ol,HO.out,tF,D7,PD,by omega⟩
    case measure=>simp[intOf];omega
  ·obtain rfl:i=aG.length:=by omega
   have hlt':¬(aG.length:Int)<(aG.length:Int):=by omega
   have ht:aG.take aG.length=aG:=List.take_length;have hd:aG.drop aG.length=[]:=List.drop_length;rw[ht,hd,List.append_nil]at HS;rw[ht]at HD;clear ht hd;rw[HD.out]at HO D7⊢;go_wp2;go_ret;have D6:=HO.out;have W9:=D7.out;rw[List.length_append]at D6 W9;exact⟨A,vc,e1,aG,a,a2,rfl,D6,ZI.out,ZJ.out,F2,x2,⟨b2,HS.out⟩,yI.out.mono (by omega) (by omega),W9⟩
theorem J2 {W0:World}{E:Nat→Addr}{P:MP}{α:Type}{jt:Nat→TypeId}{ja:Nat→Addr}{At:World→List Nat→α→Prop}{can:α→Nat→Prop}{left:α→Nat→Nat}{Stp:α→Nat→α→Prop}(HP:iH W0 E P jt ja At can left Stp)(s:SP)(F:List Nat)(K:Nat)(hK:1≤K∧K≤64)(hk:s.k=(K:Int))(b:Int)(ids:List Nat)(a:α)(x:bH)(own:Nat)(jD:own≤1000)(hin:own∈ids)(hval:∀id,s.val id= .iface (jt id) (.pointer (some (ja id))))(hcan:∀id∈ids,can a id∧id≤1000)(w:World)(h:aZ W0 E P At s w F w b ids a F x):
  Calls Tryz.prog 107 #[eO s.sb,mg P,.int .i64 (own:Int)] w fun e w'=>∃A cc e1 bF a1 a2 F' x' b',e= .returned (.slice A (e1++eB left a2 bF).length cc)∧w'.ownsRow w.heap.size 3 1 (.slice A (e1++eB left a2 bF).length cc) (e1++eB left a2 bF).length (bP (e1++eB left a2 bF))∧vR left Stp ids own (8*K) a a1∧tu left Stp K ids a1 e1 bF a2∧aZ W0 E P At s w F w' b' (eD left a2 bF) a2 F' x'∧dN x x' 0 (9*K)∧ng P s F' (.slice A (e1++eB left a2 bF).length cc):=by
 have hval:=qd hval;have hlen:=qd h.aB.many;have H0:=qd h;have Gy:=qd hcan;have jE:=qd hin;obtain⟨F0,LB⟩:∃F0,F0=F:=⟨_,rfl⟩
 have hk':1≤s.k∧s.k≤64:=by omega
 have hk8:0≤8*s.k∧8*s.k≤1000:=by omega
 have WW:8*s.k=((8*K:Nat):Int):=by rw[hk];omega
 have HK8:=qd WW;have Jf:=qd hk;have FM:=qd (yF own jD);unfold eO mg;clear h hcan hin WW hk;rw[←LB]at H0⊢;clear LB;go_in;have HS:=H0;have jo:=qd (Pf s.k 1 1 (by omega) w);unfold je at jo;obtain⟨sp,hsb⟩:=HS.out.aB.blk;have k0:=aj.cell hsb 0;have k1:=aj.cell hsb 1;have k2:=aj.cell hsb 2;have k4:=aj.cell hsb 4;simp only[gl]at k0 k1 k2 k4;clear hsb;go_wp2_with fail;refine jo.out.mono ?_;rintro x w1 ⟨rfl,hb⟩;replace HS:=qd (HS.out.below HP hb);clear k0 k1 k2 k4 hb jo;have kE:=qd (BL HP s F0 F0 b (8*s.k) hk8 ids a x w1 HS.out);unfold eO at kE;go_wp2_with fail;refine kE.out.mono ?_;rintro z w2 ⟨rfl,hs⟩;clear HS kE;have HS:=qd (show aZ W0 E P At s w F0 w2 ((8*K:Nat):Int) ids a F0 x from by rw[←HK8.out];exact hs);clear hs H0;obtain⟨sp,hsb⟩:=HS.out.aB.blk;have k0:=aj.cell hsb 0;have k1:=aj.cell hsb 1;have k2:=aj.cell hsb 2;have k4:=aj.cell hsb 4;simp only[gl]at k0 k1 k2 k4;clear hsb;have kD:=qd HS.out.aB.map;have HV:=qd (show jl s.val ids (own:Int)=some (.iface (jt own) (.pointer (some (ja own))))from by rw[yE jE.out,hval.out]);go_wp2_with (at_lookup;refine Cu rfl _ _ rfl rfl kD.out _ rfl FM.out ?_;rw[HV.out]);clear k0 k1 k2 k4 kD HV
 have h8K:8*K≤512:=by omega
 go_loopw [] (fun wr=>∃(n c:Nat) (a1:α) (F1:List Nat) (x1:bH),Hid (n+c=8*K)∧Hid (aZ W0 E P At s w F0 wr (c:Int) ids a1 F1 x1)∧Hid (JY Stp own n a a1)∧Hid (dN x x1 0 n)) (fun wr=>ED s.sb s.qb wr)
 case atStart=>exact⟨0,8*K,a,F0,x,qd (by omega),HS,qd rfl,qd (dN.refl x)⟩
 case round=>
  clear HS;obtain⟨n,c,a1,F1,x1,HN,HS,kC,qm⟩:=hrel
  have hc8:c≤512:=by have:=HN.out;omega
  have hn8:n≤8*K:=by have:=HN.out;omega
  have Jd:=qd (GA HP kC.out (Gy.out own jE.out).1);have HMe:=qd HS.out.aB.meas;have Uh:=qd (ZH HP s F0 F1 c (by omega) ids a1 x1 own Jd.out wr HS.out);unfold eO mg at Uh;go_wp2_with fail;refine Uh.out.mono ?_;rintro e V (⟨rfl,a3,F3,x3,hc1,hst,hco,hs⟩|⟨rfl,hor,hs⟩)
  ·have jg:=qd hs;have aej:=qd (show JY Stp own (n+1) a a3 from⟨a1,kC.out,hst⟩);have aek:=qd (qm.out.trans hco);clear HS hs hst hco Uh;go_wp2;go_roundw
   case rel=>exact⟨n+1,c-1,a3,F3,x3,qd (by have:=HN.out;omega),jg,aej,qd (aek.out.mono (by omega) (by omega))⟩
   case measure=>rw[HMe.out,jg.out.aB.meas];omega
  ·replace HS:=qd hs;have ZI:=qd (show vR left Stp ids own (8*K) a a1 from .inr ⟨jE.out,n,kC.out,hn8,by have:=HN.out;rcases hor with h1|h1;exact .inr h1;left;omega⟩);have Jg:∀id∈ids,can a1 id∧id≤1000:=fun id hid=>⟨GA HP kC.out (Gy.out id hid).1,(Gy.out id hid).2⟩;clear hs hor Uh kC HMe HN Jd;have BM:=qd Jg;clear Jg;have jo:=qd (I5 s.k 1 1 (by omega) V);unfold je at jo;obtain⟨sp,hsb⟩:=HS.out.aB.blk;have k0:=aj.cell hsb 0;have k1:=aj.cell hsb 1;have k2:=aj.cell hsb 2;have k4:=aj.cell hsb 4;simp only[gl]at k0 k1 k2 k4;clear hsb;go_wp2_with fail;refine jo.out.mono ?_;rintro x w1 ⟨rfl,hb⟩;replace HS:=qd (HS.out.below HP hb);clear k0 k1 k2 k4 hb jo;have kE:=qd (BL HP s F0 F1 (c:Int) s.k (by omega) ids a1 x1 w1 HS.out);unfold eO at kE;go_wp2_with fail;refine kE.out.mono ?_;rintro x w2 ⟨rfl,hs⟩;clear HS kE;have HS:=qd (show aZ W0 E P At s w F0 w2 ((K:Nat):Int) ids a1 F1 x1 from by rw[←Jf.out];exact hs);clear hs;have tC:=qd (D5 HP s F1 K (by omega) ids a1 x1 hval.out BM.out w2 HS.out.again);unfold eO mg at tC;go_wp2_with fail;refine tC.out.mono ?_;rintro x w3 ⟨A9,c9,e1,aG,a2,F2,x2,b2,rfl,D6,hoth,hs3,oW,Pv⟩;have jg:=qd (HS.out.chain hs3);have GD:=qd jg.out.size;have yI:=qd (qm.out.trans oW);have ZJ:=qd hoth;have AP:=qd (qK D6 HS.out.size);have Px:=qd Pv;have Ug:=qd (fun i (hi:i∈aG)=>And.intro (RX HP hoth (BM.out i (by rw[mq hoth];simp[hi])).1) (BM.out i (by rw[mq hoth];simp[hi])).2)
   have hel:e1.length+aG.length=ids.length:=by rw[mq hoth,List.length_append]
   clear HS D6 hoth hs3 oW Pv tC;have p8:=qd (Lu s.sb s.qb s.rb s.jb s.k b2 s.val aG w3 jg.out.aB);unfold eO at p8;go_wp2_with fail;refine p8.out.mono ?_;rintro x w4 ⟨AI,cI,rfl,Py,hb4⟩;have Jh:∀g,(Value.slice AI aG.length cI).ownBlock=some g→w3.heap.size≤g:=fun g hg=>(Py.lt g hg).1
   have LH:∀g,(Value.slice A9 e1.length c9).ownBlock=some g→(Value.slice AI aG.length cI).ownBlock≠some g:=fun g hg he=>by
    have h1:=(AP.out.lt g hg).2;have h2:=Jh g he;omega
   have Pz:ng P s F2 (.slice AI aG.length cI):=fun g hg hq=>by
    have h1:=jg.out.gJ HP g hq;have h2:=Jh g hg;omega
   replace jg:=qd (jg.out.below HP hb4);replace AP:=qB hb4 AP;have HRI:=qd Pz;have tF:=qd (qK Py (show w.heap.size≤w3.heap.size from GD.out));have WX:=qd LH;have HBI:=qd Jh;have hz4:=hb4.size;have aei:=jg.out.size;have hzb:w.heap.size≤w3.heap.size:=GD.out;clear Py hb4 Pz LH Jh p8;go_wp2;clear GD;go_loopw [9,11,46] (fun v9 _ v46 wr=>∃(i:Nat) (D:List Nat),i≤aG.length∧Hid (D=e1++eB left a2 (aG.take i))∧v46= .int .i64 (i:Int)∧Hid (aZ W0 E P At s w F0 wr b2 (eD left a2 (aG.take i)++aG.drop i) a2 F2 x2)∧wr.ownsRow w.heap.size 3 1 v9 D.length (bP D)∧Hid (wr.ownsRow w.heap.size 3 1 (.slice AI aG.length cI) aG.length (bP aG))∧Hid (ng P s F2 v9)∧Hid (∀g,v9.ownBlock=some g→(Value.slice AI aG.length cI).ownBlock≠some g)∧D.length≤e1.length+i) (fun _ _ v46 _=>aG.length-(intOf v46).toNat)
   case atStart=>exact⟨0,e1,by omega,qd (by simp[eB]),rfl,by simpa[eD]using jg,AP.out,tF,Px,WX,by omega⟩
   case round=>
    clear AP jg tF Px WX;obtain⟨i,D,hi,HD,rfl,HS,hO,tF,D7,PD,hdl⟩:=hrel;obtain⟨A,vc,rfl⟩:=bA hO;have HO:=qd hO;clear hO;by_cases hlt:i<aG.length
    ·have hlt':(i:Int)<(aG.length:Int):=by omega
     have hi0:(0:Int)≤(i:Int):=by omega
     have PE:(i:Int)≤41:=by have:=hlen.out;omega
     obtain⟨id,hid⟩:∃id,aG[i]?=some id:=⟨_,List.getElem?_eq_getElem hlt⟩;obtain⟨g,WY,hge,hgl,hce,_⟩:=iM tF.out hid;have mh:=Ug.out id (List.mem_of_getElem? hid);have hl:=HP.xq HS.out.pool mh.1;have HJ:=qd (HP.Pn mh.1);obtain⟨Fl,yH⟩:∃Fl,Fl=jk (jt id):=⟨_,rfl⟩;rw[←yH]at hl;have LC:=qd yH.symm;have HL:=qd hl;have FM:=qd (yF id mh.2);have kD:=qd HS.out.aB.map
     have hmem:id∈eD left a2 (aG.take i)++aG.drop i:=by rw[drop_cons hid];simp
     have HV:=qd (show jl s.val (eD left a2 (aG.take i)++aG.drop i) (id:Int)=some (.iface (jt id) (.pointer (some (ja id))))from by rw[yE hmem,hval.out]);have hle:=HP.le HS.out.pool mh.1;have dW:=qd (LD (left:=left) (a:=a2) hid);have vS:=qd (drop_cons hid);have DI:=qd HS.out.aB.nd;have Jd:=qd mh;have JZ:=qd hmem;obtain⟨lf,hlf⟩:∃lf,lf=left a2 id:=⟨_,rfl⟩;rw[←hlf]at HL hle;have iY:=qd hlf;have HAI:=qd WY;obtain⟨FK,FL⟩:=rR HS.out.aB;clear hl yH mh hlf hid hmem;subst WY;go_wp2_with (at_lookup;refine wZ rfl _ _ rfl rfl kD.out _ rfl FM.out _ HV.out ?_);rw[rP HJ.out,Result.andThen_ok,rQ HJ.out];rw[show jk (jt id)=Fl from LC.out];rw[Oper.upon_enter];refine HL.out.mono ?_;rintro x w5 ⟨rfl,hb5⟩;replace HS:=qd (HS.out.below HP hb5);replace HO:=qB hb5 HO;replace tF:=qB hb5 tF;clear HL FK FL hb5 LC kD hce;rcases Nat.eq_zero_or_pos lf with h0|h1
     ·subst h0;have Pt:=qd (show left a2 id=0 from iY.out.symm);have HR:=qd (BK HP s F0 F2 b2 _ a2 x2 id JZ.out Jd.out.2 w5 HS.out);unfold eO at HR;simp only[Int.ofNat_zero]at*;go_wp2_with fail;refine HR.out.mono ?_;rintro x w6 ⟨rfl,hs6,nX⟩;have WZ:=fV HO.out nX (fun g hg hq=>D7.out g hg (by simp[hq]));have GH:=fV tF.out nX (fun g hg hq=>HRI.out g hg (by simp[hq]))
      have PG:aZ W0 E P At s w F0 w6 b2 (eD left a2 (aG.take (i+1))++aG.drop (i+1)) a2 F2 x2:=by
       have hnd:=DI.out;rw[vS.out]at hs6 hnd;rw[LG (fun hh=>(List.nodup_append.1 hnd).2.2 id hh id (by simp) rfl)]at hs6;rw[dW.out.1,if_pos Pt.out,List.append_nil];exact hs6
      have HS6:=qd PG;have ZK:=qd GH;have hz6:=hs6.size;have PI:∀g',(Value.slice (some ⟨g,0,none⟩) aG.length cI).ownBlock=some g'→g'<w6.heap.size:=fun g' hg'=>(GH.lt g' hg').2;have ZL:=qd PI;clear HS HO HR tF hs6 PG nX GH PI
      have acF:D.length+1≤100:=by have:=hlen.out;omega
      go_wp2_with (at_builtin;refine iD rfl rfl yD WZ rfl rfl rfl rfl rfl (by omega) (by omega) ?_;intro v4 w7 dh gV;obtain⟨A4,c4,rfl⟩:=bA dh);obtain⟨hs7,ZM⟩:=HS6.out.app HP WZ (Nat.le_refl _) D7.out gV
      have ZN:=ZK.out.kept gV.kM (.inr (by
       intro he;have hee:∃g',(Value.slice (some ⟨g,0,none⟩) aG.length cI).ownBlock=some g':=⟨g,rfl⟩;obtain⟨g',hg'⟩:=hee
       exact PD.out g' (by rw[←he];exact hg') hg'))
      have ZO:∀g',(Value.slice A4 (D.length+1) c4).ownBlock=some g'→(Value.slice (some ⟨g,0,none⟩) aG.length cI).ownBlock≠some g':=fun g' hg' he=>by
       rcases gV.at_ with h1|⟨g2,h1,h2⟩
       ·exact PD.out g' (h1▸hg') he
       ·have:=ZL.out g' he;rw[h1]at hg'
        injection hg' with hg'
        omega
      go_roundw
      case rel=>exact⟨i+1,D++[id],by omega,qd (by rw[dW.out.2,if_pos Pt.out,HD.out,List.append_assoc]),by go_num,qd hs7,by simpa[bP]using dh,qd ZN,qd (by simpa using ZM),qd (by simpa using ZO),by simp;omega⟩
      case measure=>simp[intOf];omega
     ·have hl1:¬(lf:Int)<1:=by omega
      have hne:¬left a2 id=0:=by rw[←iY.out];omega
      have mJ:=qd hne;have hs5:=HS.out;rw[vS.out]at hs5;have Ol:=qd (show aZ W0 E P At s w F0 w5 b2 (eD left a2 (aG.take (i+1))++aG.drop (i+1)) a2 F2 x2 from by rw[dW.out.1,if_neg hne,List.append_assoc];exact hs5);clear hs5 hne HS;go_wp2;go_roundw
      case rel=>exact⟨i+1,D,by omega,qd (by rw[dW.out.2,if_neg mJ.out,List.append_nil];exact HD.out),by go_num,Ol,HO.out,tF,D7,PD,by omega⟩
      case measure=>simp[intOf];omega
    ·obtain rfl:i=aG.length:=by omega
     have hlt':¬(aG.length:Int)<(aG.length:Int):=by omega
     have ht:aG.take aG.length=aG:=List.take_length;have hd:aG.drop aG.length=[]:=List.drop_length;rw[ht,hd,List.append_nil]at HS;rw[ht]at HD;clear ht hd;rw[HD.out]at HO D7⊢;go_wp2;go_ret;have D6:=HO.out;have W9:=D7.out;rw[List.length_append]at D6 W9;exact⟨A,vc,e1,aG,a1,a2,rfl,D6,ZI.out,ZJ.out,F2,x2,⟨b2,HS.out⟩,yI.out.mono (by omega) (by omega),W9⟩
end
end Go.Proofs.YtgiaobmcbbfmnaaGreatDoor
