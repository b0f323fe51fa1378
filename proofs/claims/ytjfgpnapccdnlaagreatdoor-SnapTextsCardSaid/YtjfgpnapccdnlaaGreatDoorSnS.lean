/- amblerref30.Split by its contract: byte by byte, as refGo. -/
import Derived.Test.YtjfgpnapccdnlaaGreatDoorBuilder
import Derived.Test.YtjfgpnapccdnlaaGreatDoorKit
import Derived.WalkKit
import Derived.WalkSpells
import Derived.WalkLawsBesides
import Derived.Outline
import Derived.Test.YtjfgpnapccdnlaaGreatDoorErrs
import Derived.Test.YtjfgpnapccdnlaaGreatDoorDecK
import Derived.Test.YtjfgpnapccdnlaaGreatDoorCoAB
import Derived.Test.YtjfgpnapccdnlaaGreatDoorDecR
namespace Go.Proofs.YtjfgpnapccdnlaaGreatDoor
set_option maxRecDepth 100000
set_option maxHeartbeats 4000000
open Go.RowKit qw yS dF wF
theorem yQ {fn:Func}{t u v x:Tmp}(h:fn.results= #[.tmp t,.tmp u,.tmp v,.tmp x])(tmps:Array Value)(P:Program)(w:World):
  (results fn tmps).run P w= .ok (.tuple #[tmps.getD t undef,tmps.getD u undef,tmps.getD v undef,tmps.getD x undef]) w:=by simp[results,h]
def Yh (w:World)(r:CF)(e:Ending)(w':World):Prop:=
 match r with
 | .bad n=>e= .returned (.tuple #[.slice none 0 0,.slice none 0 0,.int .i64 (n:Int),.int .i64 3])∧Below w.heap.size w w'
 | .ok l=>∃vn va vr,e= .returned (.tuple #[vn,va,.int .i64 0,.int .i64 0])∧fQ w w' vn va vr l []
def afG (s:ByteArray)(R:CF)(i:Nat)(acc:List (Nat×List (List UInt8)))(row:List (List UInt8))(word:(List UInt8))(remark:Bool)(n:Nat):Prop:=
 (i≤s.size∧eX acc row word remark n (s.data.toList.drop i)=R)∨(i=s.size+1∧row=[]∧R= .ok acc)
theorem drop_byte (s:ByteArray)(i:Nat)(h:i<s.size):s.data.toList.drop i=s[i]::s.data.toList.drop (i+1):=by
 rw[List.drop_eq_getElem_cons (by simpa using h)];rfl
theorem ext1 (s:ByteArray)(i:Nat)(h:i<s.size):(s.extract i (i+1)).data.toList=[s[i]]:=by
 rw[Lib.extract_data];rw[show i+1-i=1 by omega];rw[drop_byte s i h];rfl
theorem Ku {b c:UInt8}{k:Int}(h:¬b=c)(hk:(c.toNat:Int)=k):((b.toNat:Int)==k)=false:=by
 rw[beq_eq_false_iff_ne];intro e;exact h (UInt8.toNat_inj.1 (by omega))
theorem data_append (a b:ByteArray):(a++b).data.toList=a.data.toList++b.data.toList:=by simp
theorem aeH (s:ByteArray)(w:World)(hs:s.size≤60000):
  Calls Tryz.prog 22 #[.string s] w (Yh w (eX [] [] [] false 1 s.data.toList)):=by
 have hst:=fQ.start w;generalize hRR:eX [] [] [] false 1 s.data.toList=R;have hR0:=qd hRR;clear hRR;go_in;go_wp2
 go_loopw [6,7,8,9,10,11,12] (fun vn va vr vw vm vk vi wr=>∃(i:Nat) (acc:List (Nat×List (List UInt8))) (row:List (List UInt8)) (wd:ByteArray) (remark:Bool) (n:Nat),
   vi= .int .i64 i∧vw= .string wd∧vm= .bool remark∧vk= .int .i64 n∧fQ w wr vn va vr acc row∧afG s R i acc row wd.data.toList remark n∧n≤i+1∧wd.size≤i∧acc.length≤i∧row.length≤i)
  (fun _ _ _ _ _ _ vi _=>s.size+1-(intOf vi).toNat)
 case atStart=>exact⟨0,[],[],⟨#[]⟩,false,1,rfl,rfl,rfl,rfl,hst,.inl ⟨Nat.zero_le _,hR0.out⟩,by omega,Nat.le_refl _,by simp,by simp⟩
 case round=>
  obtain⟨i,acc,row,wd,remark,n,rfl,rfl,rfl,rfl,h,hat,hn,hw,hacc,hrow⟩:=hrel;clear hst;obtain⟨A8,cc8,rfl⟩:=aH h.row;rcases hat with⟨hi,hat⟩|⟨hi,hrw,hat⟩
  ·by_cases hlt:i<s.size
   ·rw[drop_byte s i hlt]at hat
    have b7:((i:Int)==(s.size:Int))=false:=by simp;omega
    by_cases hb:s[i]=10
    ·have b1:(((s[i]).toNat:Int)==10)=true:=by rw[hb];rfl
     by_cases hwd:wd.size=0
     ·have hw0:wd.data.toList=[]:=by rw[←List.length_eq_zero_iff];simpa using hwd
      have b8:¬(0:Int)<(wd.size:Int):=by omega
      have hfl:fl row wd.data.toList=row:=by rw[hw0];rfl
      rw[hb,NH,hfl]at hat;by_cases hr:row=[]
      ·subst hr;have l9:=qd (show eX acc [] [] false (n+1) (s.data.toList.drop (i+1))=R by rw[←hat,add,if_pos rfl]);have hw0:=qd hw0;clear hat hwd hfl
       go_wp2_with (first
        |(at_builtin;refine aB rfl rfl iT h.row rfl rfl (by simp) rfl rfl (by omega) h.below.size ?_;intro Ev w1 hown1 hg1;obtain⟨A1,Ew,rfl⟩:=aH hown1;replace h:=h.word hown1 hg1;clear hown1 hg1)
        |(at_builtin;refine aB rfl rfl iR h.nums rfl rfl (by simp) rfl rfl (by simp;omega) h.below.size ?_;intro Ey w2 hown2 hg2;obtain⟨hN,hA,hR,dY⟩:=h.num hown2 hg2;clear hown2 hg2 h;obtain⟨vs,hA1,hA2,hA3⟩:=hA;clear hA3)
        |(at_builtin;refine aB rfl rfl iU hA1 rfl rfl (by simp) rfl rfl (by simp;omega) dY.size ?_;intro Ez w3 hown3 hg3;have h:=fQ.push hN hR dY hA1 hA2 hown3 hg3;clear hown3 hg3 hN hR dY hA1 hA2))
       go_roundw
       case rel=>exact⟨i+1,acc,[],wd,false,n+1,by go_num,rfl,rfl,by go_num,h.skip,.inl ⟨by omega,by rw[hw0.out];exact l9.out⟩,by omega,by omega,by omega,by simp⟩
       case measure=>first|(simp[intOf];done)|(simp[intOf];omega)
      ·have hrl:0<row.length:=List.length_pos_iff.2 hr;have l9:=qd (show eX (acc++[(n,row)]) [] [] false (n+1) (s.data.toList.drop (i+1))=R by rw[←hat,add,if_neg hr]);have hw0:=qd hw0;clear hat hwd hfl
       go_wp2_with (first
        |(at_builtin;refine aB rfl rfl iT h.row rfl rfl (by simp) rfl rfl (by omega) h.below.size ?_;intro Ev w1 hown1 hg1;obtain⟨A1,Ew,rfl⟩:=aH hown1;replace h:=h.word hown1 hg1;clear hown1 hg1)
        |(at_builtin;refine aB rfl rfl iR h.nums rfl rfl (by simp) rfl rfl (by simp;omega) h.below.size ?_;intro Ey w2 hown2 hg2;obtain⟨hN,hA,hR,dY⟩:=h.num hown2 hg2;clear hown2 hg2 h;obtain⟨vs,hA1,hA2,hA3⟩:=hA;clear hA3)
        |(at_builtin;refine aB rfl rfl iU hA1 rfl rfl (by simp) rfl rfl (by simp;omega) dY.size ?_;intro Ez w3 hown3 hg3;have h:=fQ.push hN hR dY hA1 hA2 hown3 hg3;clear hown3 hg3 hN hR dY hA1 hA2))
       go_roundw
       case rel=>exact⟨i+1,acc++[(n,row)],[],wd,false,n+1,by go_num,rfl,rfl,by go_num,h,.inl ⟨by omega,by rw[hw0.out];exact l9.out⟩,by omega,by omega,by simp;omega,by simp⟩
       case measure=>first|(simp[intOf];done)|(simp[intOf];omega)
     ·have hw0:wd.data.toList≠[]:=fun e=>hwd (by have:=congrArg List.length e;simpa using this)
      have b8:(0:Int)<(wd.size:Int):=by omega
      have hfl:fl row wd.data.toList=row++[wd.data.toList]:=by rw[fl,if_neg hw0]
      rw[hb,NH,hfl]at hat;have l9:=qd (show eX (acc++[(n,row++[wd.data.toList])]) [] [] false (n+1) (s.data.toList.drop (i+1))=R by rw[←hat,add,if_neg (by simp)]);clear hat hwd hfl hw0
      go_wp2_with (first
       |(at_builtin;refine aB rfl rfl iT h.row rfl rfl (by simp) rfl rfl (by omega) h.below.size ?_;intro Ev w1 hown1 hg1;obtain⟨A1,Ew,rfl⟩:=aH hown1;replace h:=h.word hown1 hg1;clear hown1 hg1)
       |(at_builtin;refine aB rfl rfl iR h.nums rfl rfl (by simp) rfl rfl (by simp;omega) h.below.size ?_;intro Ey w2 hown2 hg2;obtain⟨hN,hA,hR,dY⟩:=h.num hown2 hg2;clear hown2 hg2 h;obtain⟨vs,hA1,hA2,hA3⟩:=hA;clear hA3)
       |(at_builtin;refine aB rfl rfl iU hA1 rfl rfl (by simp) rfl rfl (by simp;omega) dY.size ?_;intro Ez w3 hown3 hg3;have h:=fQ.push hN hR dY hA1 hA2 hown3 hg3;clear hown3 hg3 hN hR dY hA1 hA2))
      go_roundw
      case rel=>exact⟨i+1,acc++[(n,row++[wd.data.toList])],[],⟨#[]⟩,false,n+1,by go_num,rfl,rfl,by go_num,h,.inl ⟨by omega,l9.out⟩,by omega,Nat.zero_le _,by simp;omega,by simp⟩
      case measure=>first|(simp[intOf];done)|(simp[intOf];omega)
    ·have b1:(((s[i]).toNat:Int)==10)=false:=Ku hb (by decide)
     cases remark with
     |true=>
      by_cases hwd:wd.size=0
      ·have hw0:wd.data.toList=[]:=by rw[←List.length_eq_zero_iff];simpa using hwd
       have b8:¬(0:Int)<(wd.size:Int):=by omega
       have hfl:fl row wd.data.toList=row:=by rw[hw0];rfl
       rw[wM _ _ _ _ _ _ _ hb (.inl rfl),hfl]at hat;have l9:=qd hat;have hw0:=qd hw0;clear hat hwd hfl
       go_wp2_with (first
        |(at_builtin;refine aB rfl rfl iT h.row rfl rfl (by simp) rfl rfl (by omega) h.below.size ?_;intro Ev w1 hown1 hg1;obtain⟨A1,Ew,rfl⟩:=aH hown1;replace h:=h.word hown1 hg1;clear hown1 hg1)
        |(at_builtin;refine aB rfl rfl iR h.nums rfl rfl (by simp) rfl rfl (by simp;omega) h.below.size ?_;intro Ey w2 hown2 hg2;obtain⟨hN,hA,hR,dY⟩:=h.num hown2 hg2;clear hown2 hg2 h;obtain⟨vs,hA1,hA2,hA3⟩:=hA;clear hA3)
        |(at_builtin;refine aB rfl rfl iU hA1 rfl rfl (by simp) rfl rfl (by simp;omega) dY.size ?_;intro Ez w3 hown3 hg3;have h:=fQ.push hN hR dY hA1 hA2 hown3 hg3;clear hown3 hg3 hN hR dY hA1 hA2))
       go_roundw
       case rel=>exact⟨i+1,acc,row,wd,true,n,by go_num,rfl,rfl,rfl,h,.inl ⟨by omega,by rw[hw0.out];exact l9.out⟩,by omega,by omega,by omega,by omega⟩
       case measure=>first|(simp[intOf];done)|(simp[intOf];omega)
      ·have hw0:wd.data.toList≠[]:=fun e=>hwd (by have:=congrArg List.length e;simpa using this)
       have b8:(0:Int)<(wd.size:Int):=by omega
       have hfl:fl row wd.data.toList=row++[wd.data.toList]:=by rw[fl,if_neg hw0]
       rw[wM _ _ _ _ _ _ _ hb (.inl rfl),hfl]at hat;have l9:=qd hat;have hw0:=qd hw0;clear hat hwd hfl
       go_wp2_with (first
        |(at_builtin;refine aB rfl rfl iT h.row rfl rfl (by simp) rfl rfl (by omega) h.below.size ?_;intro Ev w1 hown1 hg1;obtain⟨A1,Ew,rfl⟩:=aH hown1;replace h:=h.word hown1 hg1;clear hown1 hg1)
        |(at_builtin;refine aB rfl rfl iR h.nums rfl rfl (by simp) rfl rfl (by simp;omega) h.below.size ?_;intro Ey w2 hown2 hg2;obtain⟨hN,hA,hR,dY⟩:=h.num hown2 hg2;clear hown2 hg2 h;obtain⟨vs,hA1,hA2,hA3⟩:=hA;clear hA3)
        |(at_builtin;refine aB rfl rfl iU hA1 rfl rfl (by simp) rfl rfl (by simp;omega) dY.size ?_;intro Ez w3 hown3 hg3;have h:=fQ.push hN hR dY hA1 hA2 hown3 hg3;clear hown3 hg3 hN hR dY hA1 hA2))
       go_roundw
       case rel=>exact⟨i+1,acc,(row++[wd.data.toList]),⟨#[]⟩,true,n,by go_num,rfl,rfl,rfl,h,.inl ⟨by omega,l9.out⟩,by omega,Nat.zero_le _,by omega,by simp;omega⟩
       case measure=>first|(simp[intOf];done)|(simp[intOf];omega)
     |false=>
      by_cases hb2:s[i]=32
      ·have b2:(((s[i]).toNat:Int)==32)=true:=by rw[hb2];rfl
       by_cases hwd:wd.size=0
       ·have hw0:wd.data.toList=[]:=by rw[←List.length_eq_zero_iff];simpa using hwd
        have b8:¬(0:Int)<(wd.size:Int):=by omega
        have hfl:fl row wd.data.toList=row:=by rw[hw0];rfl
        rw[wM _ _ _ _ _ _ _ hb (.inr hb2),hfl]at hat;have l9:=qd hat;have hw0:=qd hw0;clear hat hwd hfl
        go_wp2_with (first
         |(at_builtin;refine aB rfl rfl iT h.row rfl rfl (by simp) rfl rfl (by omega) h.below.size ?_;intro Ev w1 hown1 hg1;obtain⟨A1,Ew,rfl⟩:=aH hown1;replace h:=h.word hown1 hg1;clear hown1 hg1)
         |(at_builtin;refine aB rfl rfl iR h.nums rfl rfl (by simp) rfl rfl (by simp;omega) h.below.size ?_;intro Ey w2 hown2 hg2;obtain⟨hN,hA,hR,dY⟩:=h.num hown2 hg2;clear hown2 hg2 h;obtain⟨vs,hA1,hA2,hA3⟩:=hA;clear hA3)
         |(at_builtin;refine aB rfl rfl iU hA1 rfl rfl (by simp) rfl rfl (by simp;omega) dY.size ?_;intro Ez w3 hown3 hg3;have h:=fQ.push hN hR dY hA1 hA2 hown3 hg3;clear hown3 hg3 hN hR dY hA1 hA2))
        go_roundw
        case rel=>exact⟨i+1,acc,row,wd,false,n,by go_num,rfl,rfl,rfl,h,.inl ⟨by omega,by rw[hw0.out];exact l9.out⟩,by omega,by omega,by omega,by omega⟩
        case measure=>first|(simp[intOf];done)|(simp[intOf];omega)
       ·have hw0:wd.data.toList≠[]:=fun e=>hwd (by have:=congrArg List.length e;simpa using this)
        have b8:(0:Int)<(wd.size:Int):=by omega
        have hfl:fl row wd.data.toList=row++[wd.data.toList]:=by rw[fl,if_neg hw0]
        rw[wM _ _ _ _ _ _ _ hb (.inr hb2),hfl]at hat;have l9:=qd hat;have hw0:=qd hw0;clear hat hwd hfl
        go_wp2_with (first
         |(at_builtin;refine aB rfl rfl iT h.row rfl rfl (by simp) rfl rfl (by omega) h.below.size ?_;intro Ev w1 hown1 hg1;obtain⟨A1,Ew,rfl⟩:=aH hown1;replace h:=h.word hown1 hg1;clear hown1 hg1)
         |(at_builtin;refine aB rfl rfl iR h.nums rfl rfl (by simp) rfl rfl (by simp;omega) h.below.size ?_;intro Ey w2 hown2 hg2;obtain⟨hN,hA,hR,dY⟩:=h.num hown2 hg2;clear hown2 hg2 h;obtain⟨vs,hA1,hA2,hA3⟩:=hA;clear hA3)
         |(at_builtin;refine aB rfl rfl iU hA1 rfl rfl (by simp) rfl rfl (by simp;omega) dY.size ?_;intro Ez w3 hown3 hg3;have h:=fQ.push hN hR dY hA1 hA2 hown3 hg3;clear hown3 hg3 hN hR dY hA1 hA2))
        go_roundw
        case rel=>exact⟨i+1,acc,(row++[wd.data.toList]),⟨#[]⟩,false,n,by go_num,rfl,rfl,rfl,h,.inl ⟨by omega,l9.out⟩,by omega,Nat.zero_le _,by omega,by simp;omega⟩
        case measure=>first|(simp[intOf];done)|(simp[intOf];omega)
      ·have b2:(((s[i]).toNat:Int)==32)=false:=Ku hb2 (by decide);by_cases hb3:s[i]=35
       ·have b3:(((s[i]).toNat:Int)==35)=true:=by rw[hb3];rfl
        by_cases hwd:wd.size=0
        ·have hw0:wd.data.toList=[]:=by rw[←List.length_eq_zero_iff];simpa using hwd
         have b8:¬(0:Int)<(wd.size:Int):=by omega
         have hfl:fl row wd.data.toList=row:=by rw[hw0];rfl
         rw[hb3,Hl,hfl]at hat;have l9:=qd hat;have hw0:=qd hw0;clear hat hwd hfl
         go_wp2_with (first
          |(at_builtin;refine aB rfl rfl iT h.row rfl rfl (by simp) rfl rfl (by omega) h.below.size ?_;intro Ev w1 hown1 hg1;obtain⟨A1,Ew,rfl⟩:=aH hown1;replace h:=h.word hown1 hg1;clear hown1 hg1)
          |(at_builtin;refine aB rfl rfl iR h.nums rfl rfl (by simp) rfl rfl (by simp;omega) h.below.size ?_;intro Ey w2 hown2 hg2;obtain⟨hN,hA,hR,dY⟩:=h.num hown2 hg2;clear hown2 hg2 h;obtain⟨vs,hA1,hA2,hA3⟩:=hA;clear hA3)
          |(at_builtin;refine aB rfl rfl iU hA1 rfl rfl (by simp) rfl rfl (by simp;omega) dY.size ?_;intro Ez w3 hown3 hg3;have h:=fQ.push hN hR dY hA1 hA2 hown3 hg3;clear hown3 hg3 hN hR dY hA1 hA2))
         go_roundw
         case rel=>exact⟨i+1,acc,row,wd,true,n,by go_num,rfl,rfl,rfl,h,.inl ⟨by omega,by rw[hw0.out];exact l9.out⟩,by omega,by omega,by omega,by omega⟩
         case measure=>first|(simp[intOf];done)|(simp[intOf];omega)
        ·have hw0:wd.data.toList≠[]:=fun e=>hwd (by have:=congrArg List.length e;simpa using this)
         have b8:(0:Int)<(wd.size:Int):=by omega
         have hfl:fl row wd.data.toList=row++[wd.data.toList]:=by rw[fl,if_neg hw0]
         rw[hb3,Hl,hfl]at hat;have l9:=qd hat;have hw0:=qd hw0;clear hat hwd hfl
         go_wp2_with (first
          |(at_builtin;refine aB rfl rfl iT h.row rfl rfl (by simp) rfl rfl (by omega) h.below.size ?_;intro Ev w1 hown1 hg1;obtain⟨A1,Ew,rfl⟩:=aH hown1;replace h:=h.word hown1 hg1;clear hown1 hg1)
          |(at_builtin;refine aB rfl rfl iR h.nums rfl rfl (by simp) rfl rfl (by simp;omega) h.below.size ?_;intro Ey w2 hown2 hg2;obtain⟨hN,hA,hR,dY⟩:=h.num hown2 hg2;clear hown2 hg2 h;obtain⟨vs,hA1,hA2,hA3⟩:=hA;clear hA3)
          |(at_builtin;refine aB rfl rfl iU hA1 rfl rfl (by simp) rfl rfl (by simp;omega) dY.size ?_;intro Ez w3 hown3 hg3;have h:=fQ.push hN hR dY hA1 hA2 hown3 hg3;clear hown3 hg3 hN hR dY hA1 hA2))
         go_roundw
         case rel=>exact⟨i+1,acc,(row++[wd.data.toList]),⟨#[]⟩,true,n,by go_num,rfl,rfl,rfl,h,.inl ⟨by omega,l9.out⟩,by omega,Nat.zero_le _,by omega,by simp;omega⟩
         case measure=>first|(simp[intOf];done)|(simp[intOf];omega)
       ·have b3:(((s[i]).toNat:Int)==35)=false:=Ku hb3 (by decide);by_cases hbad:s[i]<33∨126<s[i]
        ·rw[Vv _ _ _ _ _ _ hb hb2 hb3 hbad]at hat;have l9:=qd hat;clear hat;rcases hbad with hlo|hhi
         ·have b4:((s[i]).toNat:Int)<33:=by have:=UInt8.lt_iff_toNat_lt.1 hlo;have e:(33:UInt8).toNat=33:=rfl;omega
          go_wp2
          all_goals (refine bodyPost_ret (yQ rfl _ _ _) rfl ?_;rw[←l9.out];exact⟨rfl,h.below⟩)
         ·have b5:(126:Int)<((s[i]).toNat:Int):=by have:=UInt8.lt_iff_toNat_lt.1 hhi;have e:(126:UInt8).toNat=126:=rfl;omega
          have b4:¬((s[i]).toNat:Int)<33:=by omega
          go_wp2
          all_goals (refine bodyPost_ret (yQ rfl _ _ _) rfl ?_;rw[←l9.out];exact⟨rfl,h.below⟩)
        ·rw[Ti _ _ _ _ _ _ hb hb2 hb3 hbad]at hat;rw[not_or]at hbad
         have b4:¬((s[i]).toNat:Int)<33:=by have e:(33:UInt8).toNat=33:=rfl;have:=Nat.le_of_not_lt (fun q=>hbad.1 (UInt8.lt_iff_toNat_lt.2 q));omega
         have b5:¬(126:Int)<((s[i]).toNat:Int):=by have e:(126:UInt8).toNat=126:=rfl;have:=Nat.le_of_not_lt (fun q=>hbad.2 (UInt8.lt_iff_toNat_lt.2 q));omega
         have l9:=qd (show eX acc row (wd++s.extract i (i+1)).data.toList false n (s.data.toList.drop (i+1))=R by rw[data_append,ext1 s i hlt];exact hat);clear hat;go_wp2
         all_goals
          go_roundw
          case rel=>exact⟨i+1,acc,row,wd++s.extract i (i+1),false,n,by go_num,rfl,rfl,rfl,h,.inl ⟨by omega,l9.out⟩,by omega,by rw[ByteArray.size_append,ByteArray.size_extract];omega,by omega,by omega⟩
          case measure=>first|(simp[intOf];done)|(simp[intOf];omega)
   ·have hie:i=s.size:=by omega
    subst hie;rw[List.drop_eq_nil_of_le (by simp),Vu]at hat
    have b7:(((s.size:Nat):Int)==(s.size:Int))=true:=by simp
    by_cases hwd:wd.size=0
    ·have hw0:wd.data.toList=[]:=by rw[←List.length_eq_zero_iff];simpa using hwd
     rw[hw0]at hat;simp only[fl,if_true]at hat
     have b8:¬(0:Int)<(wd.size:Int):=by omega
     by_cases hr:row=[]
     ·subst hr;have l9:=qd (show R= .ok acc by rw[←hat,add,if_pos rfl]);clear hat hwd
      go_wp2_with (first
       |(at_builtin;refine aB rfl rfl iT h.row rfl rfl (by simp) rfl rfl (by omega) h.below.size ?_;intro Ev w1 hown1 hg1;obtain⟨A1,Ew,rfl⟩:=aH hown1;replace h:=h.word hown1 hg1;clear hown1 hg1)
       |(at_builtin;(refine aB rfl rfl iR h.nums rfl rfl (by simp) rfl rfl (by simp;omega) h.below.size ?_;intro Ey w2 hown2 hg2;obtain⟨hN,hA,hR,dY⟩:=h.num hown2 hg2;clear hown2 hg2 h;obtain⟨vs,hA1,hA2,hA3⟩:=hA;clear hA3))
       |(at_builtin;refine aB rfl rfl iU hA1 rfl rfl (by simp) rfl rfl (by simp;omega) dY.size ?_;intro Ez w3 hown3 hg3;have h:=fQ.push hN hR dY hA1 hA2 hown3 hg3;clear hown3 hg3 hN hR dY hA1 hA2))
      go_roundw
      case rel=>exact⟨s.size+1,acc,[],wd,false,n+1,by go_num,rfl,rfl,by go_num,h.skip,.inr ⟨rfl,rfl,l9.out⟩,by omega,by omega,by omega,by simp⟩
      case measure=>first|(simp[intOf];done)|(simp[intOf];omega)
     ·have hrl:0<row.length:=List.length_pos_iff.2 hr;have l9:=qd (show R= .ok (acc++[(n,row)]) by rw[←hat,add,if_neg hr]);clear hat hwd
      go_wp2_with (first
       |(at_builtin;refine aB rfl rfl iT h.row rfl rfl (by simp) rfl rfl (by omega) h.below.size ?_;intro Ev w1 hown1 hg1;obtain⟨A1,Ew,rfl⟩:=aH hown1;replace h:=h.word hown1 hg1;clear hown1 hg1)
       |(at_builtin;(refine aB rfl rfl iR h.nums rfl rfl (by simp) rfl rfl (by simp;omega) h.below.size ?_;intro Ey w2 hown2 hg2;obtain⟨hN,hA,hR,dY⟩:=h.num hown2 hg2;clear hown2 hg2 h;obtain⟨vs,hA1,hA2,hA3⟩:=hA;clear hA3))
       |(at_builtin;refine aB rfl rfl iU hA1 rfl rfl (by simp) rfl rfl (by simp;omega) dY.size ?_;intro Ez w3 hown3 hg3;have h:=fQ.push hN hR dY hA1 hA2 hown3 hg3;clear hown3 hg3 hN hR dY hA1 hA2))
      go_roundw
      case rel=>exact⟨s.size+1,acc++[(n,row)],[],wd,false,n+1,by go_num,rfl,rfl,by go_num,h,.inr ⟨rfl,rfl,l9.out⟩,by omega,by omega,by simp;omega,by simp⟩
      case measure=>first|(simp[intOf];done)|(simp[intOf];omega)
    ·have hw0:wd.data.toList≠[]:=fun e=>hwd (by have:=congrArg List.length e;simpa using this);simp only[fl,if_neg hw0]at hat
     have b8:(0:Int)<(wd.size:Int):=by omega
     have l9:=qd (show R= .ok (acc++[(n,row++[wd.data.toList])]) by rw[←hat,add,if_neg (by simp)]);clear hat hwd
     go_wp2_with (first
      |(at_builtin;refine aB rfl rfl iT h.row rfl rfl (by simp) rfl rfl (by omega) h.below.size ?_;intro Ev w1 hown1 hg1;obtain⟨A1,Ew,rfl⟩:=aH hown1;replace h:=h.word hown1 hg1;clear hown1 hg1)
      |(at_builtin;(refine aB rfl rfl iR h.nums rfl rfl (by simp) rfl rfl (by simp;omega) h.below.size ?_;intro Ey w2 hown2 hg2;obtain⟨hN,hA,hR,dY⟩:=h.num hown2 hg2;clear hown2 hg2 h;obtain⟨vs,hA1,hA2,hA3⟩:=hA;clear hA3))
      |(at_builtin;refine aB rfl rfl iU hA1 rfl rfl (by simp) rfl rfl (by simp;omega) dY.size ?_;intro Ez w3 hown3 hg3;have h:=fQ.push hN hR dY hA1 hA2 hown3 hg3;clear hown3 hg3 hN hR dY hA1 hA2))
     go_roundw
     case rel=>exact⟨s.size+1,acc++[(n,row++[wd.data.toList])],[],⟨#[]⟩,false,n+1,by go_num,rfl,rfl,by go_num,h,.inr ⟨rfl,rfl,l9.out⟩,by omega,Nat.zero_le _,by simp;omega,by simp⟩
     case measure=>first|(simp[intOf];done)|(simp[intOf];omega)
  ·subst hi hrw;go_wp2;refine bodyPost_ret (yQ rfl _ _ _) rfl ?_;rw[hat];exact⟨_,_,_,rfl,h⟩
section
variable {E : Nat → Addr} {w : World}
theorem QB (E:Nat→Addr)(k:Nat)(h:k<16):(qI E)[k]?=some (.iface 391 (.pointer (some (E (k+1))))):=by
 unfold qI;rw[List.getElem?_map,List.getElem?_range h];rfl
theorem acQ (h:eU E w)(j:Nat)(h1:1≤j)(h2:j≤16):
  Calls Tryz.prog 12 #[.iface 391 (.pointer (some (E j)))] w fun e w'=>e= .returned (.int .i64 j)∧Below w.heap.size w w':=by
 have hS:=h.alloc (.cells (qI E).toArray 32);have hcells:=aj.new w 32 (qI E).toArray;have hB:Below w.heap.size w (w.alloc (.cells (qI E).toArray 32)):=(Below.refl _ _).alloc (Nat.le_refl _) _;go_in;go_wp2_with (go_at_call 24;refine(ab0 h).mono ?_;rintro e w1 ⟨rfl,rfl⟩);obtain⟨W,hW⟩:∃W,W=w.alloc (.cells (qI E).toArray 32):=⟨_,rfl⟩;rw[←hW]at hS hcells hB⊢;clear hW;go_loop [3,4,9] (fun _ _ i=>∃k:Nat,k<j∧i= .int .i64 k) (fun _ _ i=>16-(intOf i).toNat)
 case atStart=>exact⟨0,by omega,rfl⟩
 case round=>
  obtain⟨k,hk,rfl⟩:=hrel
  have hc:W.cell? ⟨w.heap.size,k,none⟩=some (.iface 391 (.pointer (some (E (k+1))))):=by rw[hcells.cell k,List.getElem?_toArray];exact QB E k (by omega)
  have hi:=abZ hS j (k+1) h1 h2 (by omega) (by omega);by_cases hjk:j=k+1
  ·have hb:(j==k+1)=true:=by simp[hjk]
   rw[hb]at hi;have Hjk:=qd hjk;clear hjk hb;go_wp2_with (go_at_call 25;refine hi.mono ?_;rintro e w1 ⟨rfl,rfl⟩);go_ret;exact⟨gu (by have:=Hjk.out;omega),hB⟩
  ·have hb:(j==k+1)=false:=by simp[hjk]
   rw[hb]at hi;clear hb;go_wp2_with (go_at_call 25;refine hi.mono ?_;rintro e w1 ⟨rfl,rfl⟩);go_round
   case rel=>exact⟨k+1,by omega,by go_num⟩
   case measure=>simp[intOf];omega
end
section
variable {w : World} {base i n : Nat} {v : Value}
theorem jm.at_ {l:List Nat}(h:jm w base v l)(hn:l[i]?=some n):
  ∃g c,v= .slice (some ⟨g,0,none⟩) l.length c∧g<w.heap.size∧w.cell? ⟨g,i,none⟩=some (.int .i64 (n:Int)):=by
 have hi:i<l.length:=(List.getElem?_eq_some_iff.1 hn).1;obtain⟨g,cap,rfl,hg,hlt⟩:=h.form (by omega);have hc:=h.cells (g:=g) rfl i (.int .i64 (n:Int)) (by rw[List.getElem?_map,hn];rfl)
 have hadd:∀j,(⟨g,0,none⟩:Addr).add j=⟨g,j,none⟩:=fun j=>by unfold Addr.add;split<;>simp_all
 rw[hadd]at hc;exact⟨g,cap,rfl,hlt,hc⟩
theorem gy.at_ {x:Value}{l:List (List fI)}(h:gy w base v x l){r:List fI}(hr:l[i]?=some r):
  ∃g c A c',v= .slice (some ⟨g,0,none⟩) l.length c∧g<w.heap.size∧w.cell? ⟨g,i,none⟩=some (.slice A r.length c')∧Reads w w.heap.size 1 A r.length (r.map dN):=by
 obtain⟨vs,h1,h2,_⟩:=h;have hi:i<l.length:=(List.getElem?_eq_some_iff.1 hr).1;obtain⟨u,hu,hs⟩:=h2 i r hr;obtain⟨g,cap,rfl,hg,hlt⟩:=h1.form (by omega);obtain⟨A,c',rfl⟩:=aH hs;have hc:=h1.cells (g:=g) rfl i _ hu
 have hadd:∀j,(⟨g,0,none⟩:Addr).add j=⟨g,j,none⟩:=fun j=>by unfold Addr.add;split<;>simp_all
 rw[hadd]at hc;exact⟨g,cap,A,c',rfl,hlt,hc,Reads.iC hs⟩
def afW (w:World)(e:Ending)(w':World):Prop:=e= .returned (.bool true)∧Below w.heap.size w w'
end
section
variable {s : ByteArray} {w w1 w2 w3 w4 w5 : World}
def zB (s:ByteArray):Prop:=2<s.size∧s.extract 0 2=⟨#[48,120]⟩
theorem Kv (h:zB s):∃r,s.data.toList=48::120::r:=by
 have e:=aed s;rw[h.2]at e
 have hl:s.data.toList.length=s.size:=by simp
 refine⟨s.data.toList.drop 2, ?_⟩;have:=List.take_append_drop 2 s.data.toList;rw[←e]at this;exact this.symm
theorem Yi (h:zB s):numOf s.data.toList=hex (s.data.toList.drop 2)∧dec s.data.toList=none:=by
 obtain⟨r,hr⟩:=Kv h;rw[hr];refine⟨by simp[numOf,Lib.hasPrefix,Lib.trimPrefix,List.isPrefixOf], ?_⟩;exact Kt (l:=48::120::r) (k:=1) (by simp) (by show dR 120=false;decide)
theorem Yj (h:¬zB s):numOf s.data.toList=dec s.data.toList:=by
 unfold numOf
 cases hp:Lib.hasPrefix s.data.toList [48,120]with
 |false=>simp
 |true=>
  have hl:s.data.toList.length=s.size:=by simp
  obtain⟨r,hr⟩:∃r,s.data.toList=48::120::r:=by
   unfold Lib.hasPrefix at hp;rw[List.isPrefixOf_iff_prefix]at hp;obtain⟨r,hr⟩:=hp;exact⟨r,hr.symm⟩
  have hz:r=[]:=by
   apply Classical.byContradiction;intro hne;have hlen:0<r.length:=List.length_pos_iff.2 hne;apply h;refine⟨by rw[hr]at hl;simp at hl;omega, ?_⟩;have e:=aed s;rw[hr]at e;apply ByteArray.ext;exact Array.toList_inj.1 e
  subst hz;rw[hr];have e1:dec [48,120]=none:=Kt (l:=[48,120]) (k:=1) (by simp) (by decide);rw[e1];simp[Lib.trimPrefix,Lib.hasPrefix,hex]
end
def Yk (w:World)(r:Option Nat)(e:Ending)(w':World):Prop:=
 match r with
 |some n=>e= .returned (.tuple #[.int .u64 n,.bool true,.bool true])∧Below w.heap.size w w'
 |none=>∃m:Nat,m<18446744073709551616∧e= .returned (.tuple #[.int .u64 m,.bool true,.bool false])∧Below w.heap.size w w'
theorem aef {s b:ByteArray}{n:Nat}{w w1:World}(h:n<18446744073709551616∧(∀m,dec s.data.toList=some m→digits n=s.data.toList∧n=m)∧(dec s.data.toList=none→digits n≠s.data.toList))
  (hb:Says (digits n) b) (hb1:Below w.heap.size w w1):Yk w (dec s.data.toList) (.returned (.tuple #[.int .u64 n,.bool true,.bool (b.toList==s.toList)])) w1:=by
 cases hd:dec s.data.toList with
 |some m=>
  obtain⟨e1,e2⟩:=h.2.1 m hd;have e3:b=s:=acP hb e1;subst e3;subst e2;exact⟨by simp,hb1⟩
 |none=>
  have e:(b.toList==s.toList)=false:=by
   rw[beq_eq_false_iff_ne,ByteArray.toList_eq,ByteArray.toList_eq];unfold Says at hb;rw[hb];exact h.2.2 hd
  rw[e];exact⟨n,h.1,rfl,hb1⟩
theorem Vn (s:ByteArray)(w:World)(hs:s.size≤70000)(hpre:¬2<s.size∨s.extract 0 2≠⟨#[48,120]⟩):
  Calls Tryz.prog 23 #[.string s] w (Yk w (dec s.data.toList)):=by
 have hlen:s.data.toList.length=s.size:=by simp
 by_cases h2:2<s.size
 focus
  have b1:(2:Int)<(s.size:Int):=by omega
  have hp:s.extract 0 2≠⟨#[48,120]⟩:=hpre.resolve_left (by omega)
  have hp2:((s.extract 0 2).toList==[48,120])=false:=by
   rw[beq_eq_false_iff_ne,ByteArray.toList_eq];exact fun e=>hp (ByteArray.ext (Array.toList_inj.1 e))
  clear hpre hp
 rotate_left
 focus
  have b1:¬(2:Int)<(s.size:Int):=by omega
  clear hpre
 all_goals
  go_in;go_wp2;go_loop [9,10] (fun vn vi=>∃(k n:Nat),vn= .int .u64 n∧vi= .int .i64 k∧k≤s.size∧G8 s.data.toList k n∧n<18446744073709551616) (fun _ vi=>s.size-(intOf vi).toNat)
  case atStart=>exact⟨0,0,rfl,rfl,by omega,⟨by simp,by simp[mK]⟩,by omega⟩
  case round=>
   obtain⟨k,n,rfl,rfl,hk,hat,hn⟩:=hrel;by_cases hlt:k<s.size
   ·have b2:(k:Int)<(s.size:Int):=by omega
    have hget:s.data.toList[k]'(by omega)=s[k]:=rfl;by_cases hd:dR s[k]=true
    ·have hd':(48:Int)≤((s[k]).toNat:Int)∧((s[k]).toNat:Int)≤57:=by
      unfold dR at hd;simp at hd;omega
     obtain⟨b3,b4⟩:=hd';by_cases h20:20<k
     ·have b5:(20:Int)<(k:Int):=by omega
      have HR:=qd (aa4 (l:=s.data.toList) (by omega));clear hat hd hget;go_wp2;refine bodyPost_ret (jR rfl _ _ _) rfl ?_;rw[HR.out]
      first
       |exact⟨0,by decide,rfl,Below.refl _ _⟩
       |exact⟨_,hn,rfl,Below.refl _ _⟩
     ·have b5:¬(20:Int)<(k:Int):=by omega
      have HN:=qd (hat.next (by omega) (by rw[hget];exact hd));rw[hget]at HN;clear hat hd hget;go_wp2;go_round
      case rel=>exact⟨k+1,(n*10+((s[k]).toNat-48)) % 18446744073709551616,by congr 1;rw[IntKind.wrap_u64,IntKind.wrap_u64];omega,by go_num,by omega,HN.out,Nat.mod_lt _ (by decide)⟩
      case measure=>simp[intOf];omega
    ·have HR:=qd (Kt (l:=s.data.toList) (k:=k) (by omega) (by rw[hget];simpa using hd))
     have hd':((s[k]).toNat:Int)<48∨(57:Int)<((s[k]).toNat:Int):=by
      unfold dR at hd;simp at hd;omega
     clear hat hd hget;rcases hd' with b3|b3
     focus
      skip
     rotate_left
     focus
      have b4:¬((s[k]).toNat:Int)<48:=by omega
     all_goals
      go_wp2;refine bodyPost_ret (jR rfl _ _ _) rfl ?_;rw[HR.out]
      first
       |exact⟨0,by decide,rfl,Below.refl _ _⟩
       |exact⟨_,hn,rfl,Below.refl _ _⟩
   ·obtain rfl:k=s.size:=by omega
    have HU:=qd (fun W=>OI n W hn);by_cases h0:0<s.size
    ·have b3:(0:Int)<(s.size:Int):=by omega
     have hfin:=qd (G8.fin (l:=s.data.toList) (n:=n) (by rw[hlen];exact hat) (fun e=>by rw[e]at hlen;simp at hlen;omega));clear hat;go_wp2_with (go_at_call 49;refine(HU.out _).mono ?_;rintro e w1 ⟨b,hb,rfl,hb1⟩);refine bodyPost_ret (jR rfl _ _ _) rfl ?_;exact aef hfin.out hb hb1
    ·have b3:¬(0:Int)<(s.size:Int):=by omega
     have HR:=qd (show dec s.data.toList=none by
      rw[List.length_eq_zero_iff.1 (show s.data.toList.length=0 by omega)];rfl)
     go_wp2;refine bodyPost_ret (jR rfl _ _ _) rfl ?_;rw[HR.out]
     first
      |exact⟨0,by decide,rfl,Below.refl _ _⟩
      |exact⟨_,hn,rfl,Below.refl _ _⟩
theorem ES {l:List UInt8}{n:Nat}(hn:n<18446744073709551616)(h:numOf l=some n∨numOf l=none):kS l=if 48::120::d9 n=l then some n else none:=by
 unfold kS;rcases h with h|h
 ·rw[h]
 ·rw[h,if_neg];intro e;rw[←e,Tt n hn]at h;cases h
theorem aa5 (l:List UInt8)(hl:l.length≤70000)(w:World):Calls Tryz.prog 23 #[dN l] w fun y w'=>
  (∃(n:Nat) (a b:Bool),n<18446744073709551616∧y= .returned (.tuple #[.int .u64 (n:Int),.bool a,.bool b])∧kS l=if 48::120::d9 n=l then some n else none)∧Below w.heap.size w w':=by
 unfold dN;obtain⟨s,hs⟩:∃s:ByteArray,s=⟨l.toArray⟩:=⟨_,rfl⟩
 have hd:s.data.toList=l:=by rw[hs]
 have hz:s.size≤70000:=by rw[hs];show l.toArray.size≤70000;simp;omega
 rw[←hs];by_cases hw:zB s
 ·obtain⟨h1,-⟩:=Yi hw;refine(Yg s w hz hw.1 hw.2).mono fun e w' h=> ?_
  cases hx:hex (s.data.toList.drop 2)with
  |some n=>
   rw[hx]at h h1;rw[hd]at h1;obtain⟨rfl,hb⟩:=h;exact⟨⟨n,false,true,xK h1,rfl,ES (xK h1) (.inl h1)⟩,hb⟩
  |none=>
   rw[hx]at h h1;rw[hd]at h1;obtain⟨rfl,hb⟩:=h;exact⟨⟨0,false,false,by decide,rfl,ES (by decide) (.inr h1)⟩,hb⟩
 ·have h1:=Yj hw
  refine(Vn s w hz (by
   by_cases h2:2<s.size
   ·right;exact fun e=>hw ⟨h2,e⟩
   ·exact .inl h2)).mono fun e w' h=> ?_
  cases hx:dec s.data.toList with
  |some n=>
   rw[hx]at h h1;rw[hd]at h1;obtain⟨rfl,hb⟩:=h;exact⟨⟨n,true,true,xK h1,rfl,ES (xK h1) (.inl h1)⟩,hb⟩
  |none=>
   rw[hx]at h h1;rw[hd]at h1;obtain⟨m,hm,rfl,hb⟩:=h;exact⟨⟨m,true,false,hm,rfl,ES hm (.inr h1)⟩,hb⟩
section
variable {ws : List (List UInt8)} {e : Nat} {x : List UInt8}
theorem Vo {E:Nat→Addr}(ws:List (List UInt8))(hw:∀x∈ws,x.length≤70000)(w:World)(hN:iF E w)(h3:dL E w 3)(hT:w.cell? ⟨21,15,none⟩=some (.int .u8 4)){A:Option Addr}{c' B:Nat}(hR:Reads w B 1 A ws.length (ws.map dN))(z:Int):
  Calls Tryz.prog 21 #[.agg #[.int .i64 z,.slice A ws.length c']] w fun y w'=>y= .returned (JB E (oz ws))∧Below w.heap.size w w':=by
 by_cases hl:ws.length=2
 ·match ws,hl with
  | [a,b],_=>exact Nr a b (hw a (by simp)) (hw b (by simp)) w hN hT hR z
 ·exact Kr ws w h3 hl z
def late (acc:PL)(p:Nat×Nat):Bool:=acc.getLast?.any fun q=>decide (p.1≤q.1)
def iQ (acc:PL):List (Nat×List (List UInt8))→(Nat×Nat)⊕PL
 | []=> .inr acc
 |(n,ws)::r=>match oz ws with
  | .inl e=> .inl (n,e)
  | .inr p=>if late acc p=true then .inl (n,16)else iQ (acc++[p]) r
def nP (s:List UInt8):(Nat×Nat)⊕PL:=
 match fH [] 1 (lines s)with
 | .bad n=> .inl (n,3)
 | .ok L=>iQ [] L
def zC (E:Nat→Addr)(w:World)(r:(Nat×Nat)⊕PL)(y:Ending)(w':World):Prop:=
 Below w.heap.size w w'∧match r with
  | .inl (n,e)=>y= .returned (.tuple #[.slice none 0 0,.int .i64 (n:Int),jO E e])
  | .inr l=>∃v,y= .returned (.tuple #[v,.int .i64 0,.nilIface])∧w'.ownsRow w.heap.size 49 2 v l.length (l.flatMap bB)
theorem tH (acc:PL)(n:Nat)(r:List (Nat×List (List UInt8)))(h:oz ws= .inl e):iQ acc ((n,ws)::r)= .inl (n,e):=by
 rw[iQ,h]
theorem uR (acc:PL)(n:Nat)(r:List (Nat×List (List UInt8))){p:Nat×Nat}(h:oz ws= .inr p):iQ acc ((n,ws)::r)=if late acc p=true then .inl (n,16)else iQ (acc++[p]) r:=by
 rw[iQ,h]
theorem ME (h:oz ws= .inl e):1≤e:=by
 by_cases hl:ws.length=2
 ·match ws,hl with
  | [a,b],_=>
   rw[rY]at h
   cases h1:kS a with
   |none=>rw[h1]at h;injection h with h;omega
   |some k=>
    rw[h1]at h
    cases h2:kS b with
    |none=>rw[h2]at h;injection h with h;omega
    |some v=>rw[h2]at h;injection h
 ·rw[uQ hl]at h
  injection h with h
  omega
theorem MF:∀(r:List (List UInt8)),x∈r→x.length≤(Lib.join r [32]).length
 | [],h=>by cases h
 | [a],h=>by obtain rfl:=List.mem_singleton.1 h;simp[Lib.join]
 |a::b::r,h=>by
  rw[Hq];simp only[List.length_append,List.length_cons];rcases List.mem_cons.1 h with rfl|h
  ·omega
  ·have:=MF (b::r) h;omega
theorem QC {s:List UInt8}{L:List (Nat×List (List UInt8))}(h:fH [] 1 (lines s)= .ok L){p:Nat×List (List UInt8)}(hp:p∈L)(hx:x∈p.2):x.length≤s.length+1:=by
 have h1:=wN h
 have h2:∀(L:List (Nat×List (List UInt8))),p∈L→(Lib.join p.2 [32]).length≤(joined L).length:=by
  intro L hp
  induction L with
  |nil=>cases hp
  |cons q L ih=>
   have e:joined (q::L)=(Lib.join q.2 [32]++[10])++joined L:=by simp[joined]
   rw[e,List.length_append,List.length_append];rcases List.mem_cons.1 hp with rfl|hp
   ·omega
   ·have:=ih hp;omega
 have:=h2 L hp;have:=MF p.2 hx;omega
end
end Go.Proofs.YtjfgpnapccdnlaaGreatDoor
