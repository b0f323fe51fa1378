/- A scheduler's others by its contract. -/
import Derived.Test.YthfgacnlojmmfaaGreatDoorCoBU
import Derived.Test.YthfgacnlojmmfaaGreatDoorCoN
import Derived.Test.YthfgacnlojmmfaaGreatDoorLaneP
namespace Go.Proofs.YthfgacnlojmmfaaGreatDoor
set_option maxRecDepth 100000
set_option maxHeartbeats 8000000
open Go.RowKit AmC
section
variable {w : World} {jb qb rb sb : Nat} {b k : Int} {val : Nat → Value} {ids : List Nat}
def intAt (w:World)(p:Addr):Nat:=match w.cell? p with|some (.int _ n)=>n.toNat|_=>0
def schMeas (sb qb:Nat)(w:World):Nat:=intAt w ⟨sb,5,none⟩+intAt w ⟨qb,2,none⟩
theorem SchAt.meas {c:Nat}(h:SchAt w sb qb rb jb k (c:Int) val ids):schMeas sb qb w=c+ids.length:=by
 obtain⟨s,h1⟩:=h.blk;obtain⟨ring,first,h2⟩:=h.que;have c5:=Blk.cell h1 5;have c2:=h2.blk.cell 2;simp only[gl]at c5 c2;unfold schMeas intAt;rw[c5,c2];simp
theorem sch_cells (h:SchAt w sb qb rb jb k b val ids):w.cell? ⟨sb,3,none⟩=some (.pointer (some ⟨qb,0,none⟩))∧w.cell? ⟨sb,4,none⟩=some (.map (some jb)):=by
 obtain⟨s,h1⟩:=h.blk;exact⟨Blk.cell h1 3,Blk.cell h1 4⟩
theorem SchAt.head {id:Nat}(h:SchAt w sb qb rb jb k b val (id::ids)):Calls Tryz.prog 211 #[.pointer (some ⟨qb,0,none⟩)] w fun e w'=>e= .returned (.tuple #[.int .i64 (id:Int),.bool true])∧w.drew=w':=by
 obtain⟨ring,first,h2⟩:=h.que
 exact queue_Head qb rb ring first id ids w h2
theorem SchAt.head_no (h:SchAt w sb qb rb jb k b val []):Calls Tryz.prog 211 #[.pointer (some ⟨qb,0,none⟩)] w fun e w'=>e= .returned (.tuple #[.int .i64 0,.bool false])∧w=w':=by
 obtain⟨ring,first,h2⟩:=h.que
 exact queue_Head_no qb rb ring first [] w h2
theorem SchAt.balance (h:SchAt w sb qb rb jb k b val ids):Calls Tryz.prog 212 #[.pointer (some ⟨sb,5,none⟩)] w fun e w'=>e= .returned (.int .i64 b)∧w=w':=by
 obtain⟨s,h1⟩:=h.blk;exact credit_Balance sb b w h1
theorem sched_others {W0:World}{E:Nat→Addr}{P:MP}{α:Type}{jt:Nat→TypeId}{ja:Nat→Addr}{At:World→List Nat→α→Prop}{can:α→Nat→Prop}{left:α→Nat→Nat}{Stp:α→Nat→α→Prop}(HP:PoolOk W0 E P jt ja At can left Stp)(s:SP)(F:List Nat)(c0:Nat)(hc:c0≤64)(ids:List Nat)(a:α)(x:Mtr)(hval:∀id,s.val id= .iface (jt id) (.pointer (some (ja id))))(hcan:∀id∈ids,can a id∧id≤1000)(w:World)(h:SchSt W0 E P At s w F w (c0:Int) ids a F x):
  Calls Tryz.prog 158 #[schP s.sb,mtrP P] w fun e w'=>∃A cc ended ids' a' F' x' b',e= .returned (.slice A ended.length cc)∧w'.ownsRow w.heap.size 3 1 (.slice A ended.length cc) ended.length (intVals ended)∧Oth left Stp c0 ids a ended ids' a'∧SchSt W0 E P At s w F w' b' ids' a' F' x'∧Cost x x' 0 c0∧RowAp P s F' (.slice A ended.length cc):=by
 have hval:=qd hval;have hlen:=qd h.sch.many;have H0:=qd h;have Hcan:=qd hcan;obtain⟨F0,hF0⟩:∃F0,F0=F:=⟨_,rfl⟩;unfold schP mtrP;clear h hcan;rw[←hF0]at H0⊢;clear hF0;go_in;go_wp2;go_loopw [5,6,7] (fun v5 _ _ wr=>∃(c:Nat) (ids1 e1:List Nat) (a1:α) (F1:List Nat) (x1:Mtr) (u:Nat),Hid (SchSt W0 E P At s w F0 wr (c:Int) ids1 a1 F1 x1)∧wr.ownsRow w.heap.size 3 1 v5 e1.length (intVals e1)∧Hid (∀e ids' a',Oth left Stp c ids1 a1 e ids' a'→Oth left Stp c0 ids a (e1++e) ids' a')∧(u+c=c0∧e1.length+ids1.length=ids.length)∧(∀id∈ids1,can a1 id∧id≤1000)∧Cost x x1 0 u∧Hid (RowAp P s F1 v5)) (fun _ _ _ wr=>schMeas s.sb s.qb wr)
 case atStart=>exact⟨c0,ids,[],a,F0,x,0,H0,⟨rfl,.inl ⟨rfl,rfl⟩⟩,qd (fun _ _ _ h=>h),⟨by omega,by simp⟩,Hcan.out,Cost.refl x,qd (fun g hg=>by cases hg)⟩
 case round=>
  obtain⟨c,ids1,e1,a1,F1,x1,u,HS,hO,hK,hu,hcan,hCo,hRA⟩:=hrel;obtain⟨A,vc,rfl⟩:=own_form hO;have hE1:=HS.out.sch.many;have HM0:=qd HS.out.sch.meas;obtain⟨hu,hE2⟩:=hu;rcases ids1 with _|⟨id,ids1⟩
  ·have HH:=qd HS.out.sch.head_no;have HF:=qd (hK.out _ _ _ (Oth.nil c a1));have HO:=qd hO;have HC:=qd hCo
   have hu2:u≤c0:=by omega
   obtain⟨cs3,cs4⟩:=sch_cells HS.out.sch;clear hO hCo hcan;go_wp2_with fail;refine HH.out.mono ?_;rintro x w1 ⟨rfl,rfl⟩;go_wp2;go_ret;exact⟨A,vc,e1,[],a1,F1,x1,_,rfl,HO.out,by simpa using HF.out,HS.out,HC.out.mono (Nat.le_refl _) hu2,hRA.out⟩
  ·have HH:=qd HS.out.sch.head;obtain⟨cs3,cs4⟩:=sch_cells HS.out.sch;have HO:=qd hO;have HC:=qd hCo;have HCan:=qd hcan;have hlo:=hO.lt;clear hO hCo hcan;go_wp2_with fail;refine HH.out.mono ?_;rintro x w1 ⟨rfl,hdr⟩;have hb1:Below wr.heap.size wr w1:=hdr▸(Below.refl _ _).drew;clear hdr;replace HS:=qd (HS.out.below HP hb1);replace HO:=qB hb1 HO;clear cs3 cs4 HH;obtain⟨cs3,cs4⟩:=sch_cells HS.out.sch;have HB:=qd HS.out.sch.balance;go_wp2_with fail;refine HB.out.mono ?_;rintro x w2 ⟨rfl,rfl⟩;rcases c with _|c
   ·have HF:=qd (hK.out _ _ _ (Oth.broke (id::ids1) a1))
    have hu2:u≤c0:=by omega
    clear hK HB;simp only[Int.ofNat_zero]at*;go_wp2;go_ret;exact⟨A,vc,e1,_,a1,F1,x1,_,rfl,HO.out,by simpa using HF.out,HS.out,HC.out.mono (Nat.le_refl _) hu2,hRA.out⟩
   ·have hc0:¬((c+1:Nat):Int)=0:=by omega
    have hcid:=HCan.out id (by simp);have hl:=HP.left_ HS.out.pool hcid.1;have HJ:=qd (HP.jt_ hcid.1);obtain⟨Fl,hFl⟩:∃Fl,Fl=leftF (jt id):=⟨_,rfl⟩;rw[←hFl]at hl;have HFl:=qd hFl.symm;have HL:=qd hl;have HWf:=qd (int_wf id hcid.2);have HMp:=qd HS.out.sch.map;have HV:=qd (show jobsF s.val (id::ids1) (id:Int)=some (.iface (jt id) (.pointer (some (ja id))))from by rw[jobsF_at (by simp),hval.out]);have hle:=HP.le HS.out.pool hcid.1;have HCi:=qd hcid;obtain⟨lf,hlf⟩:∃lf,lf=left a1 id:=⟨_,rfl⟩;rw[←hlf]at HL hle;have HLf:=qd hlf;clear hl hFl hcid HB hlf;go_wp2_with (at_lookup;refine wpList_job rfl _ _ rfl rfl HMp.out _ rfl HWf.out _ HV.out ?_);rw[run_leftF HJ.out,Result.andThen_ok,run_leftC HJ.out];rw[show leftF (jt id)=Fl from HFl.out];rw[Oper.upon_enter];refine HL.out.mono ?_;rintro x w3 ⟨rfl,hb3⟩;replace HS:=qd (HS.out.below HP hb3);replace HO:=qB hb3 HO;replace HMp:=qd HS.out.sch.map;have hsz3:=HS.out.size;clear HL cs3 cs4 hb3 HFl;obtain⟨cs3,cs4⟩:=sch_cells HS.out.sch;rcases Nat.eq_zero_or_pos lf with h0|h1
    ·subst h0;have HF0:=qd (show left a1 id=0 from HLf.out.symm);have HR:=qd (remove_yes HP s F0 F1 ((c+1:Nat):Int) (id::ids1) a1 x1 id (by simp) HCi.out.2 w3 HS.out);simp only[List.erase_cons_head]at HR;simp only[Int.ofNat_zero]at*;go_wp2_with fail;refine HR.out.mono ?_;rintro x w4 ⟨rfl,hs4,hm4⟩;have hO4:=own_far HO.out hm4 (fun g hg hq=>hRA.out g hg (by simp[hq]));have hz4:=hm4.size;clear hm4 HS HO HR cs3 cs4 HMp;have hsz4:=hs4.size;have HS4:=qd hs4;clear hs4
     have he40:e1.length+1≤100:=by have:=hlen.out;omega
     go_wp2_with (at_builtin;refine wpList_append1 rfl rfl slty_int hO4 rfl rfl rfl rfl rfl (by omega) (by omega) ?_;intro v4 w5 hown4 hgr4;obtain⟨A4,c4,rfl⟩:=own_form hown4);obtain⟨hs5,hra5⟩:=HS4.out.app HP hO4 (Nat.le_refl _) hRA.out hgr4;go_roundw
     case rel=>exact⟨c+1,ids1,e1++[id],a1,F1,x1,u,qd hs5,by simpa[intVals]using hown4,qd (fun e ids' a' hh=>by rw[List.append_assoc];exact hK.out _ _ _ (.ended HF0.out hh)),⟨by omega,by simp at hE2⊢;omega⟩,fun i hi=>HCan.out i (by simp[hi]),HC.out,qd (by simpa using hra5)⟩
     case measure=>
      rw[hs5.sch.meas,HM0.out];simp
    ·have hl1:¬(lf:Int)<1:=by omega
     have HSt:=qd (step_yes HP s F0 F1 c (by omega) (id::ids1) a1 x1 id HCi.out.1 (by rw[←HLf.out];exact h1) w3 HS.out);unfold mtrP at HSt;go_wp2_with (at_lookup;refine wpList_job rfl _ _ rfl rfl HMp.out _ rfl HWf.out _ HV.out ?_);refine HSt.out.mono ?_;rintro x w4 ⟨rfl,a2,F2,x2,hst,hco,hs4,hF2,hm4⟩;have hO4:=own_far HO.out hm4 hRA.out;have hra4:=hRA.out.step HO.out hF2;have HRel:=qd (And.intro hs4 (And.intro hO4 (And.intro hra4 (And.intro hst hco))));have hz4:=hm4.size;clear hs4 hO4 hra4 hst hco hm4 hF2;go_wp2;go_roundw
     case rel=>exact⟨c,id::ids1,e1,a2,F2,x2,u+1,qd HRel.out.1,HRel.out.2.1,qd (fun e ids' a' hh=>hK.out _ _ _ (.step (by rw[←HLf.out];exact h1) HRel.out.2.2.2.1 hh)),⟨by omega,by omega⟩,fun i hi=>⟨HP.can_ HRel.out.2.2.2.1 (HCan.out i hi).1,(HCan.out i hi).2⟩,(HC.out.trans HRel.out.2.2.2.2).mono (by omega) (by omega),qd HRel.out.2.2.1⟩
     case measure=>
      rw[HRel.out.1.sch.meas,HM0.out];omega
end
section
variable {c i id j : Nat} {e ids' : List Nat}
def StpN {α:Type}(Stp:α→Nat→α→Prop)(id:Nat):Nat→α→α→Prop
 |0,a,a'=>a=a'
 |n+1,a,a'=>∃b,StpN Stp id n a b∧Stp b id a'
def OwnRun {α:Type}(left:α→Nat→Nat)(Stp:α→Nat→α→Prop)(ids:List Nat)(own n:Nat)(a a':α):Prop:=
 (own∉ids∧a'=a)∨(own∈ids∧∃m,StpN Stp own m a a'∧m≤n∧(m=n∨left a' own=0))
def doneL {α:Type}(left:α→Nat→Nat)(a:α)(ids:List Nat):List Nat:=ids.filter fun id=>left a id==0
def liveL {α:Type}(left:α→Nat→Nat)(a:α)(ids:List Nat):List Nat:=ids.filter fun id=>left a id !=0
theorem stpN_can {W0:World}{E:Nat→Addr}{P:MP}{α:Type}{jt:Nat→TypeId}{ja:Nat→Addr}{At:World→List Nat→α→Prop}{can:α→Nat→Prop}{left:α→Nat→Nat}{Stp:α→Nat→α→Prop}(HP:PoolOk W0 E P jt ja At can left Stp):∀{n:Nat} {a a':α},StpN Stp id n a a'→can a j→can a' j
 |0,_,_,h,hc=>h▸hc
 |_+1,_,_,⟨_,h1,h2⟩,hc=>HP.can_ h2 (stpN_can HP h1 hc)
theorem oth_can {W0:World}{E:Nat→Addr}{P:MP}{α:Type}{jt:Nat→TypeId}{ja:Nat→Addr}{At:World→List Nat→α→Prop}{can:α→Nat→Prop}{left:α→Nat→Nat}{Stp:α→Nat→α→Prop}(HP:PoolOk W0 E P jt ja At can left Stp){ids:List Nat}{a a':α}(h:Oth left Stp c ids a e ids' a')(hc:can a j):can a' j:=by
 induction h with
 |nil=>exact hc
 |broke=>exact hc
 |ended _ _ ih=>exact ih hc
 |step _ hs _ ih=>exact ih (HP.can_ hs hc)
theorem oth_ids {α:Type}{left:α→Nat→Nat}{Stp:α→Nat→α→Prop}{ids:List Nat}{a a':α}(h:Oth left Stp c ids a e ids' a'):ids=e++ids':=by
 induction h with
 |nil=>rfl
 |broke=>rfl
 |ended _ _ ih=>rw[ih];rfl
 |step _ _ _ ih=>exact ih
theorem step_any {W0 w0:World}{E:Nat→Addr}{P:MP}{α:Type}{jt:Nat→TypeId}{ja:Nat→Addr}{At:World→List Nat→α→Prop}{can:α→Nat→Prop}{left:α→Nat→Nat}{Stp:α→Nat→α→Prop}(HP:PoolOk W0 E P jt ja At can left Stp)(s:SP)(F0 F:List Nat)(b:Nat)(hb:b≤1000)(ids:List Nat)(a:α)(x:Mtr)(id:Nat)(hc:can a id)(w:World)(h:SchSt W0 E P At s w0 F0 w (b:Int) ids a F x):
  Calls Tryz.prog 156 #[schP s.sb,mtrP P,.iface (jt id) (.pointer (some (ja id)))] w fun e w'=>(e= .returned (.bool true)∧∃a' F' x',1≤b∧Stp a id a'∧Cost x x' 0 1∧SchSt W0 E P At s w0 F0 w' ((b-1:Nat):Int) ids a' F' x')∨(e= .returned (.bool false)∧(left a id=0∨b=0)∧SchSt W0 E P At s w0 F0 w' (b:Int) ids a F x):=by
 rcases Nat.eq_zero_or_pos (left a id)with h0|h1
 ·exact(step_done HP s F0 F b ids a x id hc h0 w h).mono fun e w' ⟨h1,h2⟩=> .inr ⟨h1,.inl h0,h.below HP h2⟩
 ·rcases b with _|b
  ·exact(step_broke HP s F0 F ids a x id hc h1 w h).mono fun e w' ⟨h1,h2⟩=> .inr ⟨h1,.inr rfl,h.below HP h2⟩
  ·exact(step_yes HP s F0 F b (by omega) ids a x id hc h1 w h).mono fun e w' ⟨h1,a',F',x',h2,h3,h4,_⟩=> .inl ⟨h1,a',F',x',by omega,h2,h3,h4⟩
theorem live_snoc {α:Type}{left:α→Nat→Nat}{a:α}{ids:List Nat}(h:ids[i]?=some id):liveL left a (ids.take (i+1))=liveL left a (ids.take i)++(if left a id=0 then []else [id])∧doneL left a (ids.take (i+1))=doneL left a (ids.take i)++(if left a id=0 then [id]else []):=by
 have ht:ids.take (i+1)=ids.take i++[id]:=by rw[List.take_add_one,h];rfl
 unfold liveL doneL;rw[ht,List.filter_append,List.filter_append]
 by_cases h0:left a id=0<;>simp[h0]
theorem drop_cons {ids:List Nat}(h:ids[i]?=some id):ids.drop i=id::ids.drop (i+1):=by
 obtain⟨hl,rfl⟩:=List.getElem?_eq_some_iff.1 h;exact List.drop_eq_getElem_cons hl
theorem erase_mid {l r:List Nat}(h:id∉l):(l++id::r).erase id=l++r:=by
 rw[List.erase_append_right _ h,List.erase_cons_head]
section
variable {W0 w0 w w2 : World} {E : Nat → Addr} {P : MP} {α : Type} {jt : Nat → TypeId} {ja : Nat → Addr} {At : World → List Nat → α → Prop} {can : α → Nat → Prop} {left : α → Nat → Nat} {Stp : α → Nat → α → Prop} {s : SP} {F0 F F2 : List Nat} {b b2 : Int} {ids ids2 : List Nat} {a a2 : α} {x x2 : Mtr}
theorem SchSt.again (h:SchSt W0 E P At s w0 F0 w b ids a F x):SchSt W0 E P At s w F w b ids a F x:=⟨h.sch,h.pool,h.met,h.env,h.apart,h.mb0,h.env.size,fun _ hq=> .inl hq,Mod.refl _ _⟩
theorem SchSt.chain (h:SchSt W0 E P At s w0 F0 w b ids a F x)(k:SchSt W0 E P At s w F w2 b2 ids2 a2 F2 x2):SchSt W0 E P At s w0 F0 w2 b2 ids2 a2 F2 x2:=
 ⟨k.sch,k.pool,k.met,k.env,k.apart,k.mb0,h.le0,fun q hq=>(k.sub q hq).elim (h.sub q) (fun hh=> .inr (Nat.le_trans h.size hh)),h.mod.trans k.mod (fun _ hq _=>hq) (fun q hq hl=>by
  rcases List.mem_cons.1 hq with h1|h1
  ·simp[h1]
  ·rcases List.mem_append.1 h1 with h2|h2
   ·simp[h2]
   ·rcases h.sub q h2 with h3|h3
    ·simp[h3]
    ·omega)⟩
end
theorem sched_Serve_out {W0:World}{E:Nat→Addr}{P:MP}{α:Type}{jt:Nat→TypeId}{ja:Nat→Addr}{At:World→List Nat→α→Prop}{can:α→Nat→Prop}{left:α→Nat→Nat}{Stp:α→Nat→α→Prop}(HP:PoolOk W0 E P jt ja At can left Stp)(s:SP)(F:List Nat)(K:Nat)(hK:1≤K∧K≤64)(hk:s.k=(K:Int))(b:Int)(ids:List Nat)(a:α)(x:Mtr)(own:Nat)(h1000:own≤1000)(hin:own∉ids)(hval:∀id,s.val id= .iface (jt id) (.pointer (some (ja id))))(hcan:∀id∈ids,can a id∧id≤1000)(w:World)(h:SchSt W0 E P At s w F w b ids a F x):
  Calls Tryz.prog 110 #[schP s.sb,mtrP P,.int .i64 (own:Int)] w fun e w'=>∃A cc e1 ids1 a1 a2 F' x' b',e= .returned (.slice A (e1++doneL left a2 ids1).length cc)∧w'.ownsRow w.heap.size 3 1 (.slice A (e1++doneL left a2 ids1).length cc) (e1++doneL left a2 ids1).length (intVals (e1++doneL left a2 ids1))∧OwnRun left Stp ids own (8*K) a a1∧Oth left Stp K ids a1 e1 ids1 a2∧SchSt W0 E P At s w F w' b' (liveL left a2 ids1) a2 F' x'∧Cost x x' 0 (9*K)∧RowAp P s F' (.slice A (e1++doneL left a2 ids1).length cc):=by
 have hval:=qd hval;have hlen:=qd h.sch.many;have H0:=qd h;have Hcan:=qd hcan;have HIn:=qd hin;obtain⟨F0,hF0⟩:∃F0,F0=F:=⟨_,rfl⟩
 have hk':1≤s.k∧s.k≤64:=by omega
 have hk8:0≤8*s.k∧8*s.k≤1000:=by omega
 have hK8:8*s.k=((8*K:Nat):Int):=by rw[hk];omega
 have HK8:=qd hK8;have HKk:=qd hk;have HWf:=qd (int_wf own h1000);unfold schP mtrP;clear h hcan hin hK8 hk;rw[←hF0]at H0⊢;clear hF0;go_in;have HS:=H0;have HPl:=qd (plan_Own s.k 1 1 (by omega) w);unfold cfgV at HPl;obtain⟨sp,hsb⟩:=HS.out.sch.blk;have k0:=Blk.cell hsb 0;have k1:=Blk.cell hsb 1;have k2:=Blk.cell hsb 2;have k4:=Blk.cell hsb 4;simp only[gl]at k0 k1 k2 k4;clear hsb;go_wp2_with fail;refine HPl.out.mono ?_;rintro x w1 ⟨rfl,hb⟩;replace HS:=qd (HS.out.below HP hb);clear k0 k1 k2 k4 hb HPl;have HFd:=qd (fund_yes HP s F0 F0 b (8*s.k) hk8 ids a x w1 HS.out);unfold schP at HFd;go_wp2_with fail;refine HFd.out.mono ?_;rintro z w2 ⟨rfl,hs⟩;clear HS HFd;have HS:=qd (show SchSt W0 E P At s w F0 w2 ((8*K:Nat):Int) ids a F0 x from by rw[←HK8.out];exact hs);clear hs H0;obtain⟨sp,hsb⟩:=HS.out.sch.blk;have k0:=Blk.cell hsb 0;have k1:=Blk.cell hsb 1;have k2:=Blk.cell hsb 2;have k4:=Blk.cell hsb 4;simp only[gl]at k0 k1 k2 k4;clear hsb;have HMp:=qd HS.out.sch.map;have HV:=qd (show jobsF s.val ids (own:Int)=none from jobsF_no HIn.out);go_wp2_with (at_lookup;refine wpList_job_ok rfl _ _ rfl rfl HMp.out _ rfl HWf.out ?_;rw[HV.out]);clear k0 k1 k2 k4 HMp;have HOwn:=qd (show OwnRun left Stp ids own (8*K) a a from .inl ⟨HIn.out,rfl⟩);have hcan1:=Hcan.out;have HCo1:=qd (Cost.refl x);have HCan1:=qd hcan1;clear hcan1;have HPl:=qd (plan_Other s.k 1 1 (by omega) w2);unfold cfgV at HPl;obtain⟨sp,hsb⟩:=HS.out.sch.blk;have k0:=Blk.cell hsb 0;have k1:=Blk.cell hsb 1;have k2:=Blk.cell hsb 2
 have k4:=Blk.cell hsb 4;simp only[gl]at k0 k1 k2 k4;clear hsb;go_wp2_with fail;refine HPl.out.mono ?_;rintro x w1 ⟨rfl,hb⟩;replace HS:=qd (HS.out.below HP hb);clear k0 k1 k2 k4 hb HPl;have HFd:=qd (fund_yes HP s F0 F0 ((8*K:Nat):Int) s.k (by omega) ids a x w1 HS.out);unfold schP at HFd;go_wp2_with fail;refine HFd.out.mono ?_;rintro x w2 ⟨rfl,hs⟩;clear HS HFd;have HS:=qd (show SchSt W0 E P At s w F0 w2 ((K:Nat):Int) ids a F0 x from by rw[←HKk.out];exact hs);clear hs;have HOt:=qd (sched_others HP s F0 K (by omega) ids a x hval.out HCan1.out w2 HS.out.again);unfold schP mtrP at HOt;go_wp2_with fail;refine HOt.out.mono ?_;rintro x w3 ⟨A9,c9,e1,ids2,a2,F2,x2,b2,rfl,hO9,hoth,hs3,hco2,hra9⟩;have HS3:=qd (HS.out.chain hs3);have HS30:=qd HS3.out.size;have HCo2:=qd (HCo1.out.trans hco2);have HOth:=qd hoth;have HO9:=qd (own_base hO9 HS.out.size);have HRA9:=qd hra9;have hcan2:=qd (fun i (hi:i∈ids2)=>And.intro (oth_can HP hoth (HCan1.out i (by rw[oth_ids hoth];simp[hi])).1) (HCan1.out i (by rw[oth_ids hoth];simp[hi])).2)
 have hel:e1.length+ids2.length=ids.length:=by rw[oth_ids hoth,List.length_append]
 clear HS hO9 hoth hs3 hco2 hra9 HOt;have HId:=qd (sched_Ids s.sb s.qb s.rb s.jb s.k b2 s.val ids2 w3 HS3.out.sch);unfold schP at HId;go_wp2_with fail;refine HId.out.mono ?_;rintro x w4 ⟨AI,cI,rfl,hOI,hb4⟩;have hgI:∀g,(Value.slice AI ids2.length cI).ownBlock=some g→w3.heap.size≤g:=fun g hg=>(hOI.lt g hg).1
 have hg9:∀g,(Value.slice A9 e1.length c9).ownBlock=some g→(Value.slice AI ids2.length cI).ownBlock≠some g:=fun g hg he=>by
  have h1:=(HO9.out.lt g hg).2;have h2:=hgI g he;omega
 have hraI:RowAp P s F2 (.slice AI ids2.length cI):=fun g hg hq=>by
  have h1:=HS3.out.lts HP g hq;have h2:=hgI g hg;omega
 replace HS3:=qd (HS3.out.below HP hb4);replace HO9:=qB hb4 HO9;have HRI:=qd hraI;have HOI:=qd (own_base hOI (show w.heap.size≤w3.heap.size from HS30.out));have HG9:=qd hg9;have HBI:=qd hgI;have hz4:=hb4.size;have hz34:=HS3.out.size;have hzb:w.heap.size≤w3.heap.size:=HS30.out;clear hOI hb4 hraI hg9 hgI HId;go_wp2;clear HS30;go_loopw [9,11,46] (fun v9 _ v46 wr=>∃(i:Nat) (D:List Nat),i≤ids2.length∧Hid (D=e1++doneL left a2 (ids2.take i))∧v46= .int .i64 (i:Int)∧Hid (SchSt W0 E P At s w F0 wr b2 (liveL left a2 (ids2.take i)++ids2.drop i) a2 F2 x2)∧wr.ownsRow w.heap.size 3 1 v9 D.length (intVals D)∧Hid (wr.ownsRow w.heap.size 3 1 (.slice AI ids2.length cI) ids2.length (intVals ids2))∧Hid (RowAp P s F2 v9)∧Hid (∀g,v9.ownBlock=some g→(Value.slice AI ids2.length cI).ownBlock≠some g)∧D.length≤e1.length+i) (fun _ _ v46 _=>ids2.length-(intOf v46).toNat)
 case atStart=>exact⟨0,e1,by omega,qd (by simp[doneL]),rfl,by simpa[liveL]using HS3,HO9.out,HOI,HRA9,HG9,by omega⟩
 case round=>
  clear HO9 HS3 HOI HRA9 HG9;obtain⟨i,D,hi,HD,rfl,HS,hO,HOI,HRA,HGG,hdl⟩:=hrel;obtain⟨A,vc,rfl⟩:=own_form hO;have HO:=qd hO;clear hO;by_cases hlt:i<ids2.length
  ·have hlt':(i:Int)<(ids2.length:Int):=by omega
   have hi0:(0:Int)≤(i:Int):=by omega
   have hi41:(i:Int)≤41:=by have:=hlen.out;omega
   obtain⟨id,hid⟩:∃id,ids2[i]?=some id:=⟨_,List.getElem?_eq_getElem hlt⟩;obtain⟨g,hAI,hge,hgl,hce,_⟩:=intVals_cell HOI.out hid;have hcid:=hcan2.out id (List.mem_of_getElem? hid);have hl:=HP.left_ HS.out.pool hcid.1;have HJ:=qd (HP.jt_ hcid.1);obtain⟨Fl,hFl⟩:∃Fl,Fl=leftF (jt id):=⟨_,rfl⟩;rw[←hFl]at hl;have HFl:=qd hFl.symm;have HL:=qd hl;have HWf:=qd (int_wf id hcid.2);have HMp:=qd HS.out.sch.map
   have hmem:id∈liveL left a2 (ids2.take i)++ids2.drop i:=by rw[drop_cons hid];simp
   have HV:=qd (show jobsF s.val (liveL left a2 (ids2.take i)++ids2.drop i) (id:Int)=some (.iface (jt id) (.pointer (some (ja id))))from by rw[jobsF_at hmem,hval.out]);have hle:=HP.le HS.out.pool hcid.1;have HSn:=qd (live_snoc (left:=left) (a:=a2) hid);have HDr:=qd (drop_cons hid);have HNd:=qd HS.out.sch.nd;have HCi:=qd hcid;have HMem:=qd hmem;obtain⟨lf,hlf⟩:∃lf,lf=left a2 id:=⟨_,rfl⟩;rw[←hlf]at HL hle;have HLf:=qd hlf;have HAI:=qd hAI;obtain⟨cs3,cs4⟩:=sch_cells HS.out.sch;clear hl hFl hcid hlf hid hmem;subst hAI;go_wp2_with (at_lookup;refine wpList_job rfl _ _ rfl rfl HMp.out _ rfl HWf.out _ HV.out ?_);rw[run_leftF HJ.out,Result.andThen_ok,run_leftC HJ.out];rw[show leftF (jt id)=Fl from HFl.out];rw[Oper.upon_enter];refine HL.out.mono ?_;rintro x w5 ⟨rfl,hb5⟩;replace HS:=qd (HS.out.below HP hb5);replace HO:=qB hb5 HO;replace HOI:=qB hb5 HOI;clear HL cs3 cs4 hb5 HFl HMp hce;rcases Nat.eq_zero_or_pos lf with h0|h1
   ·subst h0;have HF0:=qd (show left a2 id=0 from HLf.out.symm);have HR:=qd (remove_yes HP s F0 F2 b2 _ a2 x2 id HMem.out HCi.out.2 w5 HS.out);unfold schP at HR;simp only[Int.ofNat_zero]at*;go_wp2_with fail;refine HR.out.mono ?_;rintro x w6 ⟨rfl,hs6,hm6⟩;have hO6:=own_far HO.out hm6 (fun g hg hq=>HRA.out g hg (by simp[hq]));have hOI6:=own_far HOI.out hm6 (fun g hg hq=>HRI.out g hg (by simp[hq]))
    have hs6':SchSt W0 E P At s w F0 w6 b2 (liveL left a2 (ids2.take (i+1))++ids2.drop (i+1)) a2 F2 x2:=by
     have hnd:=HNd.out;rw[HDr.out]at hs6 hnd;rw[erase_mid (fun hh=>(List.nodup_append.1 hnd).2.2 id hh id (by simp) rfl)]at hs6;rw[HSn.out.1,if_pos HF0.out,List.append_nil];exact hs6
    have HS6:=qd hs6';have HOI6:=qd hOI6;have hz6:=hs6.size;have hgI6:∀g',(Value.slice (some ⟨g,0,none⟩) ids2.length cI).ownBlock=some g'→g'<w6.heap.size:=fun g' hg'=>(hOI6.lt g' hg').2;have HGI6:=qd hgI6;clear HS HO HR HOI hs6 hs6' hm6 hOI6 hgI6
    have he40:D.length+1≤100:=by have:=hlen.out;omega
    go_wp2_with (at_builtin;refine wpList_append1 rfl rfl slty_int hO6 rfl rfl rfl rfl rfl (by omega) (by omega) ?_;intro v4 w7 hown4 hgr4;obtain⟨A4,c4,rfl⟩:=own_form hown4);obtain⟨hs7,hra7⟩:=HS6.out.app HP hO6 (Nat.le_refl _) HRA.out hgr4
    have hOI7:=HOI6.out.kept hgr4.by_ (.inr (by
     intro he;have hee:∃g',(Value.slice (some ⟨g,0,none⟩) ids2.length cI).ownBlock=some g':=⟨g,rfl⟩;obtain⟨g',hg'⟩:=hee
     exact HGG.out g' (by rw[←he];exact hg') hg'))
    have hgg7:∀g',(Value.slice A4 (D.length+1) c4).ownBlock=some g'→(Value.slice (some ⟨g,0,none⟩) ids2.length cI).ownBlock≠some g':=fun g' hg' he=>by
     rcases hgr4.at_ with h1|⟨g2,h1,h2⟩
     ·exact HGG.out g' (h1▸hg') he
     ·have:=HGI6.out g' he;rw[h1]at hg'
      injection hg' with hg'
      omega
    go_roundw
    case rel=>exact⟨i+1,D++[id],by omega,qd (by rw[HSn.out.2,if_pos HF0.out,HD.out,List.append_assoc]),by go_num,qd hs7,by simpa[intVals]using hown4,qd hOI7,qd (by simpa using hra7),qd (by simpa using hgg7),by simp;omega⟩
    case measure=>simp[intOf];omega
   ·have hl1:¬(lf:Int)<1:=by omega
    have hne:¬left a2 id=0:=by rw[←HLf.out];omega
    have HNe:=qd hne;have hs5:=HS.out;rw[HDr.out]at hs5;have HS5:=qd (show SchSt W0 E P At s w F0 w5 b2 (liveL left a2 (ids2.take (i+1))++ids2.drop (i+1)) a2 F2 x2 from by rw[HSn.out.1,if_neg hne,List.append_assoc];exact hs5);clear hs5 hne HS;go_wp2;go_roundw
    case rel=>exact⟨i+1,D,by omega,qd (by rw[HSn.out.2,if_neg HNe.out,List.append_nil];exact HD.out),by go_num,HS5,HO.out,HOI,HRA,HGG,by omega⟩
    case measure=>simp[intOf];omega
  ·obtain rfl:i=ids2.length:=by omega
   have hlt':¬(ids2.length:Int)<(ids2.length:Int):=by omega
   have ht:ids2.take ids2.length=ids2:=List.take_length;have hd:ids2.drop ids2.length=[]:=List.drop_length;rw[ht,hd,List.append_nil]at HS;rw[ht]at HD;clear ht hd;rw[HD.out]at HO HRA⊢;go_wp2;go_ret;have hO9:=HO.out;have hR9:=HRA.out;rw[List.length_append]at hO9 hR9;exact⟨A,vc,e1,ids2,a,a2,rfl,hO9,HOwn.out,HOth.out,F2,x2,⟨b2,HS.out⟩,HCo2.out.mono (by omega) (by omega),hR9⟩
theorem sched_Serve_in {W0:World}{E:Nat→Addr}{P:MP}{α:Type}{jt:Nat→TypeId}{ja:Nat→Addr}{At:World→List Nat→α→Prop}{can:α→Nat→Prop}{left:α→Nat→Nat}{Stp:α→Nat→α→Prop}(HP:PoolOk W0 E P jt ja At can left Stp)(s:SP)(F:List Nat)(K:Nat)(hK:1≤K∧K≤64)(hk:s.k=(K:Int))(b:Int)(ids:List Nat)(a:α)(x:Mtr)(own:Nat)(h1000:own≤1000)(hin:own∈ids)(hval:∀id,s.val id= .iface (jt id) (.pointer (some (ja id))))(hcan:∀id∈ids,can a id∧id≤1000)(w:World)(h:SchSt W0 E P At s w F w b ids a F x):
  Calls Tryz.prog 110 #[schP s.sb,mtrP P,.int .i64 (own:Int)] w fun e w'=>∃A cc e1 ids1 a1 a2 F' x' b',e= .returned (.slice A (e1++doneL left a2 ids1).length cc)∧w'.ownsRow w.heap.size 3 1 (.slice A (e1++doneL left a2 ids1).length cc) (e1++doneL left a2 ids1).length (intVals (e1++doneL left a2 ids1))∧OwnRun left Stp ids own (8*K) a a1∧Oth left Stp K ids a1 e1 ids1 a2∧SchSt W0 E P At s w F w' b' (liveL left a2 ids1) a2 F' x'∧Cost x x' 0 (9*K)∧RowAp P s F' (.slice A (e1++doneL left a2 ids1).length cc):=by
 have hval:=qd hval;have hlen:=qd h.sch.many;have H0:=qd h;have Hcan:=qd hcan;have HIn:=qd hin;obtain⟨F0,hF0⟩:∃F0,F0=F:=⟨_,rfl⟩
 have hk':1≤s.k∧s.k≤64:=by omega
 have hk8:0≤8*s.k∧8*s.k≤1000:=by omega
 have hK8:8*s.k=((8*K:Nat):Int):=by rw[hk];omega
 have HK8:=qd hK8;have HKk:=qd hk;have HWf:=qd (int_wf own h1000);unfold schP mtrP;clear h hcan hin hK8 hk;rw[←hF0]at H0⊢;clear hF0;go_in;have HS:=H0;have HPl:=qd (plan_Own s.k 1 1 (by omega) w);unfold cfgV at HPl;obtain⟨sp,hsb⟩:=HS.out.sch.blk;have k0:=Blk.cell hsb 0;have k1:=Blk.cell hsb 1;have k2:=Blk.cell hsb 2;have k4:=Blk.cell hsb 4;simp only[gl]at k0 k1 k2 k4;clear hsb;go_wp2_with fail;refine HPl.out.mono ?_;rintro x w1 ⟨rfl,hb⟩;replace HS:=qd (HS.out.below HP hb);clear k0 k1 k2 k4 hb HPl;have HFd:=qd (fund_yes HP s F0 F0 b (8*s.k) hk8 ids a x w1 HS.out);unfold schP at HFd;go_wp2_with fail;refine HFd.out.mono ?_;rintro z w2 ⟨rfl,hs⟩;clear HS HFd;have HS:=qd (show SchSt W0 E P At s w F0 w2 ((8*K:Nat):Int) ids a F0 x from by rw[←HK8.out];exact hs);clear hs H0;obtain⟨sp,hsb⟩:=HS.out.sch.blk;have k0:=Blk.cell hsb 0;have k1:=Blk.cell hsb 1;have k2:=Blk.cell hsb 2;have k4:=Blk.cell hsb 4;simp only[gl]at k0 k1 k2 k4;clear hsb;have HMp:=qd HS.out.sch.map;have HV:=qd (show jobsF s.val ids (own:Int)=some (.iface (jt own) (.pointer (some (ja own))))from by rw[jobsF_at HIn.out,hval.out]);go_wp2_with (at_lookup;refine wpList_job_ok rfl _ _ rfl rfl HMp.out _ rfl HWf.out ?_;rw[HV.out]);clear k0 k1 k2 k4 HMp HV
 have h8K:8*K≤512:=by omega
 go_loopw [] (fun wr=>∃(n c:Nat) (a1:α) (F1:List Nat) (x1:Mtr),Hid (n+c=8*K)∧Hid (SchSt W0 E P At s w F0 wr (c:Int) ids a1 F1 x1)∧Hid (StpN Stp own n a a1)∧Hid (Cost x x1 0 n)) (fun wr=>schMeas s.sb s.qb wr)
 case atStart=>exact⟨0,8*K,a,F0,x,qd (by omega),HS,qd rfl,qd (Cost.refl x)⟩
 case round=>
  clear HS;obtain⟨n,c,a1,F1,x1,HN,HS,HSt,HCo1⟩:=hrel
  have hc8:c≤512:=by have:=HN.out;omega
  have hn8:n≤8*K:=by have:=HN.out;omega
  have HCi:=qd (stpN_can HP HSt.out (Hcan.out own HIn.out).1);have HMe:=qd HS.out.sch.meas;have HAny:=qd (step_any HP s F0 F1 c (by omega) ids a1 x1 own HCi.out wr HS.out);unfold schP mtrP at HAny;go_wp2_with fail;refine HAny.out.mono ?_;rintro e V (⟨rfl,a3,F3,x3,hc1,hst,hco,hs⟩|⟨rfl,hor,hs⟩)
  ·have HS3:=qd hs;have HSt3:=qd (show StpN Stp own (n+1) a a3 from⟨a1,HSt.out,hst⟩);have HCo3:=qd (HCo1.out.trans hco);clear HS hs hst hco HAny;go_wp2;go_roundw
   case rel=>exact⟨n+1,c-1,a3,F3,x3,qd (by have:=HN.out;omega),HS3,HSt3,qd (HCo3.out.mono (by omega) (by omega))⟩
   case measure=>rw[HMe.out,HS3.out.sch.meas];omega
  ·replace HS:=qd hs;have HOwn:=qd (show OwnRun left Stp ids own (8*K) a a1 from .inr ⟨HIn.out,n,HSt.out,hn8,by have:=HN.out;rcases hor with h1|h1;exact .inr h1;left;omega⟩);have hcan1:∀id∈ids,can a1 id∧id≤1000:=fun id hid=>⟨stpN_can HP HSt.out (Hcan.out id hid).1,(Hcan.out id hid).2⟩;clear hs hor HAny HSt HMe HN HCi;have HCan1:=qd hcan1;clear hcan1;have HPl:=qd (plan_Other s.k 1 1 (by omega) V);unfold cfgV at HPl;obtain⟨sp,hsb⟩:=HS.out.sch.blk;have k0:=Blk.cell hsb 0;have k1:=Blk.cell hsb 1;have k2:=Blk.cell hsb 2;have k4:=Blk.cell hsb 4;simp only[gl]at k0 k1 k2 k4;clear hsb;go_wp2_with fail;refine HPl.out.mono ?_;rintro x w1 ⟨rfl,hb⟩;replace HS:=qd (HS.out.below HP hb);clear k0 k1 k2 k4 hb HPl;have HFd:=qd (fund_yes HP s F0 F1 (c:Int) s.k (by omega) ids a1 x1 w1 HS.out);unfold schP at HFd;go_wp2_with fail;refine HFd.out.mono ?_;rintro x w2 ⟨rfl,hs⟩;clear HS HFd;have HS:=qd (show SchSt W0 E P At s w F0 w2 ((K:Nat):Int) ids a1 F1 x1 from by rw[←HKk.out];exact hs);clear hs;have HOt:=qd (sched_others HP s F1 K (by omega) ids a1 x1 hval.out HCan1.out w2 HS.out.again);unfold schP mtrP at HOt;go_wp2_with fail;refine HOt.out.mono ?_;rintro x w3 ⟨A9,c9,e1,ids2,a2,F2,x2,b2,rfl,hO9,hoth,hs3,hco2,hra9⟩;have HS3:=qd (HS.out.chain hs3);have HS30:=qd HS3.out.size;have HCo2:=qd (HCo1.out.trans hco2);have HOth:=qd hoth;have HO9:=qd (own_base hO9 HS.out.size);have HRA9:=qd hra9
   have hcan2:=qd (fun i (hi:i∈ids2)=>And.intro (oth_can HP hoth (HCan1.out i (by rw[oth_ids hoth];simp[hi])).1) (HCan1.out i (by rw[oth_ids hoth];simp[hi])).2)
   have hel:e1.length+ids2.length=ids.length:=by rw[oth_ids hoth,List.length_append]
   clear HS hO9 hoth hs3 hco2 hra9 HOt;have HId:=qd (sched_Ids s.sb s.qb s.rb s.jb s.k b2 s.val ids2 w3 HS3.out.sch);unfold schP at HId;go_wp2_with fail;refine HId.out.mono ?_;rintro x w4 ⟨AI,cI,rfl,hOI,hb4⟩;have hgI:∀g,(Value.slice AI ids2.length cI).ownBlock=some g→w3.heap.size≤g:=fun g hg=>(hOI.lt g hg).1
   have hg9:∀g,(Value.slice A9 e1.length c9).ownBlock=some g→(Value.slice AI ids2.length cI).ownBlock≠some g:=fun g hg he=>by
    have h1:=(HO9.out.lt g hg).2;have h2:=hgI g he;omega
   have hraI:RowAp P s F2 (.slice AI ids2.length cI):=fun g hg hq=>by
    have h1:=HS3.out.lts HP g hq;have h2:=hgI g hg;omega
   replace HS3:=qd (HS3.out.below HP hb4);replace HO9:=qB hb4 HO9;have HRI:=qd hraI;have HOI:=qd (own_base hOI (show w.heap.size≤w3.heap.size from HS30.out));have HG9:=qd hg9;have HBI:=qd hgI;have hz4:=hb4.size;have hz34:=HS3.out.size;have hzb:w.heap.size≤w3.heap.size:=HS30.out;clear hOI hb4 hraI hg9 hgI HId;go_wp2;clear HS30;go_loopw [9,11,46] (fun v9 _ v46 wr=>∃(i:Nat) (D:List Nat),i≤ids2.length∧Hid (D=e1++doneL left a2 (ids2.take i))∧v46= .int .i64 (i:Int)∧Hid (SchSt W0 E P At s w F0 wr b2 (liveL left a2 (ids2.take i)++ids2.drop i) a2 F2 x2)∧wr.ownsRow w.heap.size 3 1 v9 D.length (intVals D)∧Hid (wr.ownsRow w.heap.size 3 1 (.slice AI ids2.length cI) ids2.length (intVals ids2))∧Hid (RowAp P s F2 v9)∧Hid (∀g,v9.ownBlock=some g→(Value.slice AI ids2.length cI).ownBlock≠some g)∧D.length≤e1.length+i) (fun _ _ v46 _=>ids2.length-(intOf v46).toNat)
   case atStart=>exact⟨0,e1,by omega,qd (by simp[doneL]),rfl,by simpa[liveL]using HS3,HO9.out,HOI,HRA9,HG9,by omega⟩
   case round=>
    clear HO9 HS3 HOI HRA9 HG9;obtain⟨i,D,hi,HD,rfl,HS,hO,HOI,HRA,HGG,hdl⟩:=hrel;obtain⟨A,vc,rfl⟩:=own_form hO;have HO:=qd hO;clear hO;by_cases hlt:i<ids2.length
    ·have hlt':(i:Int)<(ids2.length:Int):=by omega
     have hi0:(0:Int)≤(i:Int):=by omega
     have hi41:(i:Int)≤41:=by have:=hlen.out;omega
     obtain⟨id,hid⟩:∃id,ids2[i]?=some id:=⟨_,List.getElem?_eq_getElem hlt⟩;obtain⟨g,hAI,hge,hgl,hce,_⟩:=intVals_cell HOI.out hid;have hcid:=hcan2.out id (List.mem_of_getElem? hid);have hl:=HP.left_ HS.out.pool hcid.1;have HJ:=qd (HP.jt_ hcid.1);obtain⟨Fl,hFl⟩:∃Fl,Fl=leftF (jt id):=⟨_,rfl⟩;rw[←hFl]at hl;have HFl:=qd hFl.symm;have HL:=qd hl;have HWf:=qd (int_wf id hcid.2);have HMp:=qd HS.out.sch.map
     have hmem:id∈liveL left a2 (ids2.take i)++ids2.drop i:=by rw[drop_cons hid];simp
     have HV:=qd (show jobsF s.val (liveL left a2 (ids2.take i)++ids2.drop i) (id:Int)=some (.iface (jt id) (.pointer (some (ja id))))from by rw[jobsF_at hmem,hval.out]);have hle:=HP.le HS.out.pool hcid.1;have HSn:=qd (live_snoc (left:=left) (a:=a2) hid);have HDr:=qd (drop_cons hid);have HNd:=qd HS.out.sch.nd;have HCi:=qd hcid;have HMem:=qd hmem;obtain⟨lf,hlf⟩:∃lf,lf=left a2 id:=⟨_,rfl⟩;rw[←hlf]at HL hle;have HLf:=qd hlf;have HAI:=qd hAI;obtain⟨cs3,cs4⟩:=sch_cells HS.out.sch;clear hl hFl hcid hlf hid hmem;subst hAI;go_wp2_with (at_lookup;refine wpList_job rfl _ _ rfl rfl HMp.out _ rfl HWf.out _ HV.out ?_);rw[run_leftF HJ.out,Result.andThen_ok,run_leftC HJ.out];rw[show leftF (jt id)=Fl from HFl.out];rw[Oper.upon_enter];refine HL.out.mono ?_;rintro x w5 ⟨rfl,hb5⟩;replace HS:=qd (HS.out.below HP hb5);replace HO:=qB hb5 HO;replace HOI:=qB hb5 HOI;clear HL cs3 cs4 hb5 HFl HMp hce;rcases Nat.eq_zero_or_pos lf with h0|h1
     ·subst h0;have HF0:=qd (show left a2 id=0 from HLf.out.symm);have HR:=qd (remove_yes HP s F0 F2 b2 _ a2 x2 id HMem.out HCi.out.2 w5 HS.out);unfold schP at HR;simp only[Int.ofNat_zero]at*;go_wp2_with fail;refine HR.out.mono ?_;rintro x w6 ⟨rfl,hs6,hm6⟩;have hO6:=own_far HO.out hm6 (fun g hg hq=>HRA.out g hg (by simp[hq]));have hOI6:=own_far HOI.out hm6 (fun g hg hq=>HRI.out g hg (by simp[hq]))
      have hs6':SchSt W0 E P At s w F0 w6 b2 (liveL left a2 (ids2.take (i+1))++ids2.drop (i+1)) a2 F2 x2:=by
       have hnd:=HNd.out;rw[HDr.out]at hs6 hnd;rw[erase_mid (fun hh=>(List.nodup_append.1 hnd).2.2 id hh id (by simp) rfl)]at hs6;rw[HSn.out.1,if_pos HF0.out,List.append_nil];exact hs6
      have HS6:=qd hs6';have HOI6:=qd hOI6;have hz6:=hs6.size;have hgI6:∀g',(Value.slice (some ⟨g,0,none⟩) ids2.length cI).ownBlock=some g'→g'<w6.heap.size:=fun g' hg'=>(hOI6.lt g' hg').2;have HGI6:=qd hgI6;clear HS HO HR HOI hs6 hs6' hm6 hOI6 hgI6
      have he40:D.length+1≤100:=by have:=hlen.out;omega
      go_wp2_with (at_builtin;refine wpList_append1 rfl rfl slty_int hO6 rfl rfl rfl rfl rfl (by omega) (by omega) ?_;intro v4 w7 hown4 hgr4;obtain⟨A4,c4,rfl⟩:=own_form hown4);obtain⟨hs7,hra7⟩:=HS6.out.app HP hO6 (Nat.le_refl _) HRA.out hgr4
      have hOI7:=HOI6.out.kept hgr4.by_ (.inr (by
       intro he;have hee:∃g',(Value.slice (some ⟨g,0,none⟩) ids2.length cI).ownBlock=some g':=⟨g,rfl⟩;obtain⟨g',hg'⟩:=hee
       exact HGG.out g' (by rw[←he];exact hg') hg'))
      have hgg7:∀g',(Value.slice A4 (D.length+1) c4).ownBlock=some g'→(Value.slice (some ⟨g,0,none⟩) ids2.length cI).ownBlock≠some g':=fun g' hg' he=>by
       rcases hgr4.at_ with h1|⟨g2,h1,h2⟩
       ·exact HGG.out g' (h1▸hg') he
       ·have:=HGI6.out g' he;rw[h1]at hg'
        injection hg' with hg'
        omega
      go_roundw
      case rel=>exact⟨i+1,D++[id],by omega,qd (by rw[HSn.out.2,if_pos HF0.out,HD.out,List.append_assoc]),by go_num,qd hs7,by simpa[intVals]using hown4,qd hOI7,qd (by simpa using hra7),qd (by simpa using hgg7),by simp;omega⟩
      case measure=>simp[intOf];omega
     ·have hl1:¬(lf:Int)<1:=by omega
      have hne:¬left a2 id=0:=by rw[←HLf.out];omega
      have HNe:=qd hne;have hs5:=HS.out;rw[HDr.out]at hs5;have HS5:=qd (show SchSt W0 E P At s w F0 w5 b2 (liveL left a2 (ids2.take (i+1))++ids2.drop (i+1)) a2 F2 x2 from by rw[HSn.out.1,if_neg hne,List.append_assoc];exact hs5);clear hs5 hne HS;go_wp2;go_roundw
      case rel=>exact⟨i+1,D,by omega,qd (by rw[HSn.out.2,if_neg HNe.out,List.append_nil];exact HD.out),by go_num,HS5,HO.out,HOI,HRA,HGG,by omega⟩
      case measure=>simp[intOf];omega
    ·obtain rfl:i=ids2.length:=by omega
     have hlt':¬(ids2.length:Int)<(ids2.length:Int):=by omega
     have ht:ids2.take ids2.length=ids2:=List.take_length;have hd:ids2.drop ids2.length=[]:=List.drop_length;rw[ht,hd,List.append_nil]at HS;rw[ht]at HD;clear ht hd;rw[HD.out]at HO HRA⊢;go_wp2;go_ret;have hO9:=HO.out;have hR9:=HRA.out;rw[List.length_append]at hO9 hR9;exact⟨A,vc,e1,ids2,a1,a2,rfl,hO9,HOwn.out,HOth.out,F2,x2,⟨b2,HS.out⟩,HCo2.out.mono (by omega) (by omega),hR9⟩
end
end Go.Proofs.YthfgacnlojmmfaaGreatDoor
