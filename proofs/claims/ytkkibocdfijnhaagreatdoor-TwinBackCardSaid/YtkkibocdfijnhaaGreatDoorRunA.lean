/- The plain law of scripts: which operations are right and consistent, and which row of words is which operation. No program in sight. -/
import Derived.Test.YtkkibocdfijnhaaGreatDoorSliceP
import Derived.Test.YtkkibocdfijnhaaGreatDoorDecP
import Derived.Test.YtkkibocdfijnhaaGreatDoorProg
import Derived.Test.YtkkibocdfijnhaaGreatDoorLaneP
import Derived.KernelRfl
import Derived.Test.YtkkibocdfijnhaaGreatDoorLaw21e
import Derived.Test.YtkkibocdfijnhaaGreatDoorFloatP
import Derived.WalkKit
import Derived.WalkSpells
import Derived.WalkLawsBesides
import Derived.Outline
import Derived.BigQuiet
import Derived.Deep.QuietTactic
namespace Go.Proofs.YtkkibocdfijnhaaGreatDoor.tF
set_option maxRecDepth 100000
set_option maxHeartbeats 4000000
open Go QX Go.RowKit tF bV
variable {o : aV} {e i : Nat}
abbrev Bytes:=List UInt8
def isKind (k:Int):Bool:=decide (1≤k) && decide (k≤8)
def Ip (k:Int):Bool:=k==7||k==8
def jZ (o:aV):Bool:=
 isKind o.kind && decide (0≤o.iter) && decide (o.iter≤1000000) && (eG o.kind||(o.key==0 && o.hash==0)) && (o.kind==2||o.val==0) && (Ip o.kind||o.iter==0)
theorem abm {k:Int}(h:isKind k=true):1≤k∧k≤8:=by
 unfold isKind at h;simpa using h
theorem PO (h:jZ o=true):isKind o.kind=true:=by
 unfold jZ at h;simp only[Bool.and_eq_true]at h;exact h.1.1.1.1.1
def clash (a b:aV):Bool:=eG a.kind && eG b.kind && a.key==b.key && a.hash !=b.hash
def pz (pre:List aV):List aV→Option Nat
 | []=>none
 |o::t=>if pre.any (clash o)then some pre.length else pz (pre++[o]) t
def other (l:List aV):Option Nat:=pz [] l
def uq (f:Int→Option Int)(o:aV):Int→Option Int:=if eG o.kind then fun y=>if y=o.key then some o.hash else f y else f
def known (l:List aV):Int→Option Int:=l.foldl uq (fun _=>none)
theorem Bj (l:List aV)(o:aV):known (l++[o])=uq (known l) o:=by simp[known]
def free (l:List aV):Prop:=∀a∈l,∀b∈l,clash a b=false
theorem Dw (x h:Int):∀(n:Nat) (l:List aV),l.length=n→known l x=some h→∃o∈l,eG o.kind=true∧o.key=x∧o.hash=h:=by
 intro n
 induction n with
 |zero=>
  intro l hl hk;obtain rfl:=List.length_eq_zero_iff.1 hl;cases hk
 |succ n ih=>
  intro l hl hk
  have hne:l≠[]:=fun e=>by rw[e]at hl;simp at hl
  have e:=List.dropLast_concat_getLast hne;rw[←e,Bj]at hk;unfold uq at hk;split at hk
  ·next hkd=>
   by_cases hx:x=(l.getLast hne).key
   ·simp only[hx,if_true]at hk;exact⟨_,List.getLast_mem hne,hkd,hx.symm,by injection hk⟩
   ·simp only[hx,if_false]at hk;obtain⟨o,ho,r⟩:=ih l.dropLast (by simp;omega) hk;exact⟨o,List.dropLast_subset _ ho,r⟩
  ·obtain⟨o,ho,r⟩:=ih l.dropLast (by simp;omega) hk;exact⟨o,List.dropLast_subset _ ho,r⟩
theorem Iq (x:Int):∀(n:Nat) (l:List aV),l.length=n→known l x=none→∀o∈l,eG o.kind=true→o.key≠x:=by
 intro n
 induction n with
 |zero=>
  intro l hl _ o ho;obtain rfl:=List.length_eq_zero_iff.1 hl;cases ho
 |succ n ih=>
  intro l hl hk o ho hkd
  have hne:l≠[]:=fun e=>by rw[e]at hl;simp at hl
  have e:=List.dropLast_concat_getLast hne;rw[←e,Bj]at hk;rw[←e]at ho;unfold uq at hk;rcases List.mem_append.1 ho with ho|ho
  ·refine ih l.dropLast (by simp;omega) ?_ o ho hkd;split at hk
   ·by_cases hx:x=(l.getLast hne).key
    ·simp only[hx,if_true]at hk;cases hk
    ·simpa only[hx,if_false]using hk
   ·exact hk
  ·obtain rfl:o=l.getLast hne:=by simpa using ho
   rw[if_pos hkd]at hk;intro hx;rw[hx]at hk;simp at hk
theorem PS {l:List aV}(hf:free l)(o:aV):l.any (clash o)=(eG o.kind && match known l o.key with|some h=>h !=o.hash|none=>false):=by
 cases hkd:eG o.kind with
 |false=>
  rw[Bool.false_and,Bool.eq_false_iff];intro h;obtain⟨x,_,hx⟩:=List.any_eq_true.1 h;simp[clash,hkd]at hx
 |true=>
  rw[Bool.true_and]
  cases hk:known l o.key with
  |none=>
   rw[Bool.eq_false_iff];intro h;obtain⟨x,hx,hc⟩:=List.any_eq_true.1 h;simp only[clash,Bool.and_eq_true,beq_iff_eq]at hc;exact Iq _ _ l rfl hk x hx hc.1.1.2 hc.1.2.symm
  |some h=>
   obtain⟨x,hx,hxk,hxe,hxh⟩:=Dw _ _ _ l rfl hk;by_cases hh:h=o.hash
   ·have e:(h !=o.hash)=false:=by simp[hh]
    simp only[e];rw[Bool.eq_false_iff];intro hany;obtain⟨y,hy,hc⟩:=List.any_eq_true.1 hany;simp only[clash,Bool.and_eq_true,beq_iff_eq,bne_iff_ne]at hc;have:=hf x hx y hy;simp only[clash,hxk,hc.1.1.2,Bool.true_and]at this;rw[hxe,hc.1.2]at this;simp only[beq_self_eq_true,Bool.true_and,bne_eq_false_iff_eq]at this;exact hc.2 (by rw[←hh,←hxh,this])
   ·have e:(h !=o.hash)=true:=by simp[hh]
    simp only[e];refine List.any_eq_true.2 ⟨x,hx, ?_⟩;simp only[clash,hkd,hxk,hxe,hxh,Bool.true_and,beq_self_eq_true];simpa using fun e=>hh e.symm
theorem SY (a b:aV):clash a b=clash b a:=by
 unfold clash;rw[Bool.eq_iff_iff];simp only[Bool.and_eq_true,beq_iff_eq,bne_iff_ne];constructor
 ·rintro⟨⟨⟨h1,h2⟩,h3⟩,h4⟩;exact⟨⟨⟨h2,h1⟩,h3.symm⟩,fun e=>h4 e.symm⟩
 ·rintro⟨⟨⟨h1,h2⟩,h3⟩,h4⟩;exact⟨⟨⟨h2,h1⟩,h3.symm⟩,fun e=>h4 e.symm⟩
theorem S9 (a:aV):clash a a=false:=by simp[clash]
theorem KW {l:List aV}(hf:free l)(h:l.any (clash o)=false):free (l++[o]):=by
 have H:∀b∈l,clash o b=false:=by
  intro b hb;rw[Bool.eq_false_iff]at h⊢;exact fun e=>h (List.any_eq_true.2 ⟨b,hb,e⟩)
 intro a ha b hb;rcases List.mem_append.1 ha with ha|ha
 ·rcases List.mem_append.1 hb with hb|hb
  ·exact hf a ha b hb
  ·have hbo:b=o:=by simpa using hb
   rw[hbo,SY];exact H a ha
 ·obtain rfl:a=o:=by simpa using ha
  rcases List.mem_append.1 hb with hb|hb
  ·exact H b hb
  ·obtain rfl:b=a:=by simpa using hb
   exact S9 b
theorem OT:free []:=fun a ha=>by cases ha
theorem Dx:∀(t pre:List aV),free pre→(pz pre t=none↔free (pre++t))
 | [],pre,h=>by simp[pz,h]
 |o::t,pre,h=>by
  rw[pz]
  cases hc:pre.any (clash o)with
  |true=>
   simp only[if_true];constructor
   ·intro e;cases e
   ·intro hf;obtain⟨x,hx,hcx⟩:=List.any_eq_true.1 hc;have:=hf o (by simp) x (List.mem_append_left _ hx);rw[hcx]at this;cases this
  |false=>
   simp only[Bool.false_eq_true,if_false];rw[Dx t (pre++[o]) (KW h hc)];simp
theorem Ta {l:List aV}:other l=none↔free l:=by
 have:=Dx l [] OT;simpa[other]using this
def fH (o x:aV):Bool:=eG x.kind && x.key==o.key
def jT (pre:List aV):List aV→List aV
 | []=> []
 |o::t=>if eG o.kind && !pre.any (fH o)then o::jT (pre++[o]) t else jT (pre++[o]) t
def firsts (l:List aV):List aV:=jT [] l
theorem BO (o:aV):∀(t pre:List aV),jT pre (t++[o])=jT pre t++(if eG o.kind && !(pre++t).any (fH o)then [o]else [])
 | [],pre=>by
  simp only[List.nil_append,jT,List.append_nil]
 |x::t,pre=>by
  simp only[List.cons_append,jT,BO o t (pre++[x])];rw[show pre++[x]++t=pre++x::t by simp]
  split<;>simp
theorem EU (l:List aV)(o:aV):firsts (l++[o])=firsts l++(if eG o.kind && !l.any (fH o)then [o]else []):=by
 have:=BO o l [];simpa[firsts]using this
def cnt (l:List aV)(x:Int):Nat:=l.countP fun o=>eG o.kind && o.key==x
theorem OU (l:List aV)(o:aV)(x:Int):cnt (l++[o]) x=cnt l x+if eG o.kind && o.key==x then 1 else 0:=by
 unfold cnt;rw[List.countP_append];simp[List.countP_cons]
theorem acW (l:List aV)(x:Int):cnt l x≤l.length:=List.countP_le_length
theorem abn (l:List aV)(o:aV):(cnt l o.key=0)↔l.any (fH o)=false:=by
 unfold cnt;rw[List.countP_eq_zero,List.any_eq_false];rfl
theorem OV (l:List aV)(o:aV):l.any (fH o)=(firsts l).any (fun x=>x.key==o.key):=by
 have H:∀(n:Nat) (l:List aV),l.length=n→l.any (fH o)=(firsts l).any (fun x=>x.key==o.key):=by
  intro n
  induction n with
  |zero=>intro l hl;obtain rfl:=List.length_eq_zero_iff.1 hl;rfl
  |succ n ih=>
   intro l hl
   have hne:l≠[]:=fun e=>by rw[e]at hl;simp at hl
   have e:=List.dropLast_concat_getLast hne;have ih':=ih l.dropLast (by simp;omega);rw[←e,EU,List.any_append,List.any_append,←ih'];generalize l.getLast hne=x;generalize l.dropLast=m at*;simp only[List.any_cons,List.any_nil,Bool.or_false];by_cases hx:x.key=o.key
   ·have e1:fH x=fH o:=by funext y;simp[fH,hx]
    rw[e1]
    cases hk:eG x.kind with
    |false=>simp[fH,hk]
    |true=>
     cases hm:m.any (fH o)<;>simp[fH,hk,hx]
   ·have e1:fH o x=false:=by simp[fH,hx]
    rw[e1]
    split<;>simp[hx]
 exact H _ l rfl
theorem LM (l:List aV):(firsts l).length≤l.length:=by
 have H:∀(t pre:List aV),(jT pre t).length≤t.length:=by
  intro t
  induction t with
  |nil=>intro pre;simp[jT]
  |cons o t ih=>
   intro pre;have:=ih (pre++[o]);rw[jT]
   split<;>simp<;>omega
 exact H l []
def names:List Bytes:=[[],[103,101,116],[112,117,116],[100,101,108],[108,101,110],[99,108,101,97,114],[111,112,101,110],[110,101,120,116],[99,108,111,115,101]]
def aeC (k:Int):Bytes:=if isKind k then names.getD k.toNat []else []
def kindOf (w:Bytes):Nat:=
 if w=[103,101,116]then 1 else if w=[112,117,116]then 2 else if w=[100,101,108]then 3 else if w=[108,101,110]then 4 else if w=[99,108,101,97,114]then 5
 else if w=[111,112,101,110]then 6 else if w=[110,101,120,116]then 7 else if w=[99,108,111,115,101]then 8 else 0
def acX (k:Nat):Nat:=if k=1∨k=3 then 2 else if k=2 then 3 else if k=7∨k=8 then 1 else 0
def aeu (k:Nat)(w:Bytes):Except Nat Nat:=
 if 7≤k then(match dec w with|none=> .error 13|some n=>if 1000000<n then .error 1 else .ok n)
 else(match numOf w with|none=> .error 13|some n=> .ok n)
def aar (k:Nat)(acc:List Nat):List Bytes→Except Nat (List Nat)
 | []=> .ok acc
 |w::r=>match aeu k w with
  | .error e=> .error e
  | .ok n=>aar k (acc++[n]) r
def aev (k:Nat)(ns:List Nat):aV:=
 {kind:=k,key:=if k≤3 then(ns.getD 0 0:Nat)else 0,val:=if k=2 then(ns.getD 1 0:Nat)else 0,hash:=if k≤3 then(ns.getD (ns.length-1) 0:Nat)else 0,iter:=if 7≤k then(ns.getD 0 0:Nat)else 0}
def one:List Bytes→Except Nat aV
 | []=> .error 15
 |w::r=>if kindOf w=0 then .error 15 else if r.length≠acX (kindOf w)then .error 3 else
  match aar (kindOf w) [] r with
  | .error e=> .error e
  | .ok ns=> .ok (aev (kindOf w) ns)
end Go.Proofs.YtkkibocdfijnhaaGreatDoor.tF

/-! Rows of operations in memory. No statement of the claim. -/
namespace Go.Proofs.YtkkibocdfijnhaaGreatDoor
set_option maxRecDepth 100000
set_option maxHeartbeats 4000000
open Go QX Go.RowKit tF bV
variable {k : Nat} {l : List aV} {o : aV} {x : Int}
def Ah (o:aV):List Value:=[.int .i64 o.kind,.int .u64 o.key,.int .u64 o.val,.int .u64 o.hash,.int .i64 o.iter]
def BP (o:aV):Value:= .agg #[.int .i64 o.kind,.int .u64 o.key,.int .u64 o.val,.int .u64 o.hash,.int .i64 o.iter]
def dR (l:List aV):List Value:=l.flatMap Ah
theorem jP (l:List aV):(dR l).length=l.length*5:=by
 induction l with
 |nil=>rfl
 |cons o t ih=>
  have:(dR (o::t)).length=5+(dR t).length:=by simp[dR,Ah];omega
  rw[this,ih,List.length_cons];omega
theorem Dy (l:List aV)(k:Nat)(o:aV)(h:l[k]?=some o):
  (dR l)[k*5]?=some (.int .i64 o.kind)∧(dR l)[k*5+1]?=some (.int .u64 o.key)∧(dR l)[k*5+2]?=some (.int .u64 o.val)∧
  (dR l)[k*5+3]?=some (.int .u64 o.hash)∧(dR l)[k*5+4]?=some (.int .i64 o.iter):=by
 have hk:k<l.length:=(List.getElem?_eq_some_iff.1 h).1
 have hl:l=l.take k++o::l.drop (k+1):=by
  have h1:=(List.getElem?_eq_some_iff.1 h).2;rw[←h1,←List.drop_eq_getElem_cons hk,List.take_append_drop]
 have e:dR l=dR (l.take k)++(Ah o++dR (l.drop (k+1))):=by
  conv=>lhs;rw[hl]
  simp[dR]
 have hlen:(dR (l.take k)).length=k*5:=by rw[jP,List.length_take];rw[Nat.min_eq_left (by omega)]
 have H:∀j,j<5→(dR l)[k*5+j]?=(Ah o)[j]?:=by
  intro j hj;rw[e,List.getElem?_append_right (by omega),hlen,List.getElem?_append_left (by simp[Ah];omega)];congr 1;omega
 refine⟨?_, ?_, ?_, ?_, ?_⟩
 ·exact H 0 (by omega)
 ·exact H 1 (by omega)
 ·exact H 2 (by omega)
 ·exact H 3 (by omega)
 ·exact H 4 (by omega)
theorem yh {wr:World}{B:Nat}{A:Option Addr}{n:Nat}(h:Reads wr B 5 A n (dR l))(ho:l[k]?=some o):∃b off,A=some ⟨b,off,none⟩∧b<B∧
  wr.cell? ⟨b,off+k*5,none⟩=some (.int .i64 o.kind)∧wr.cell? ⟨b,off+k*5+1,none⟩=some (.int .u64 o.key)∧wr.cell? ⟨b,off+k*5+2,none⟩=some (.int .u64 o.val)∧
  wr.cell? ⟨b,off+k*5+3,none⟩=some (.int .u64 o.hash)∧wr.cell? ⟨b,off+k*5+4,none⟩=some (.int .i64 o.iter):=by
 have hk:k<l.length:=(List.getElem?_eq_some_iff.1 ho).1
 have hn:0<n:=by have:=h.1;rw[jP]at this;omega
 obtain⟨b,off,rfl,hb,hc⟩:=h.abz hn;obtain⟨o0,o1,o2,o3,o4⟩:=Dy l k o ho;exact⟨b,off,rfl,hb,hc _ _ o0,hc _ _ o1,hc _ _ o2,hc _ _ o3,hc _ _ o4⟩
def aas (o:aV):Obj:= .cells #[.int .i64 o.kind,.int .u64 o.key,.int .u64 o.val,.int .u64 o.hash,.int .i64 o.iter] 40
def Dz (o:aV):Prop:= -9223372036854775808≤o.kind∧o.kind<9223372036854775808∧0≤o.key∧o.key<18446744073709551616∧0≤o.val∧o.val<18446744073709551616∧0≤o.hash∧o.hash<18446744073709551616∧
 -9223372036854775808≤o.iter∧o.iter<9223372036854775808
theorem min_u64:IntKind.u64.min=0:=by decide
theorem max_u64:IntKind.u64.max=18446744073709551615:=by decide
theorem min_i64:IntKind.i64.min= -9223372036854775808:=by decide
theorem max_i64:IntKind.i64.max=9223372036854775807:=by decide
theorem wf_u64 (h0:0≤x)(h1:x<18446744073709551616):(Lit.int .u64 x).wf=true:=by
 unfold Lit.wf;simp only[min_u64,max_u64,Bool.and_eq_true,decide_eq_true_eq];omega
theorem wf_i64 (h0: -9223372036854775808≤x)(h1:x<9223372036854775808):(Lit.int .i64 x).wf=true:=by
 unfold Lit.wf;simp only[min_i64,max_i64,Bool.and_eq_true,decide_eq_true_eq];omega
theorem sI (h:l[k]?=some o):l.take (k+1)=l.take k++[o]:=by
 rw[List.take_add_one,h];rfl
theorem abo (h:l[k]?=some o):l.drop k=o::l.drop (k+1):=by
 obtain⟨h1,h2⟩:=List.getElem?_eq_some_iff.1 h;rw[List.drop_eq_getElem_cons h1,h2]
end Go.Proofs.YtkkibocdfijnhaaGreatDoor

/-! Scripts done on a map, plainly: what each operation answers, and what is there behind it. No statement of the claim. -/
namespace Go.Proofs.YtkkibocdfijnhaaGreatDoor
set_option maxRecDepth 100000
set_option maxHeartbeats 4000000
open Go QX Go.RowKit tF bV
structure St where
 R:Nat→Option Nat
 n:Nat
 ids:List Nat
 gv:Nat
def vZ:St:=⟨fun _=>none,0,[],0⟩
structure mh where
 kind:Int
 iter:Int
 state:Int
 is:Bool
 key:Nat
 val:Nat
 err:Nat
deriving DecidableEq
def wK (s:St)(i:Int):Bool:=s.ids.any fun x=>(x:Int)==i
def oo (M I:Nat)(s:St)(o:aV):St:=
 if o.kind=2 then{s with R:=FW M s.R s.n o.key.toNat o.val.toNat,n:=FX M (s.R o.key.toNat) s.n}
 else if o.kind=3 then{s with R:=FY s.R o.key.toNat,n:=OL (s.R o.key.toNat) s.n}
 else if o.kind=5 then{s with R:=fun _=>none,n:=0}
 else if o.kind=6 then(if s.ids.length<I then{s with ids:=s.ids++[s.gv+1],gv:=s.gv+1} else s)
 else if o.kind=8 then{s with ids:=s.ids.filter fun x=> !((x:Int)==o.iter)}
 else s
def mZ (M I:Nat)(s:St)(o:aV):mh where
 kind:=o.kind
 iter:=if o.kind=6∧s.ids.length<I then((s.gv+1:Nat):Int)else 0
 state:=0
 is:=if o.kind=1∨o.kind=3 then(s.R o.key.toNat).isSome else false
 key:=0
 val:=if o.kind=1 then(s.R o.key.toNat).getD 0 else if o.kind=4 then s.n else 0
 err:=if o.kind=2 then(if noRoom M (s.R o.key.toNat) s.n then 2 else 0)else if o.kind=6 then(if s.ids.length<I then 0 else 7)else if o.kind=7∨o.kind=8 then(if wK s o.iter then 0 else 6)else 0
def Told (s:St)(err:Nat)(state:Int)(key val:Nat):Prop:=
 (err≠0→state=0∧key=0∧val=0)∧(err=0→1≤state∧state≤3∧(state=1→s.R key=some val)∧(state≠1→key=0∧val=0))
def jQ (M I:Nat)(s:St)(o:aV)(a:mh):Prop:=
 if o.kind=7 then a.kind=7∧a.iter=0∧a.is=false∧a.err=(mZ M I s o).err∧Told s a.err a.state a.key a.val else a=mZ M I s o
def jI (M I:Nat):St→List aV→List mh→Prop
 |_,[],[]=>True
 |s,o::os,a::us=>jQ M I s o a∧jI M I (oo M I s o) os us
 |_,_,_=>False
def kV (M I:Nat)(s:St)(l:List aV):St:=l.foldl (oo M I) s
theorem OW (M I:Nat)(s:St)(l:List aV)(o:aV):kV M I s (l++[o])=oo M I (kV M I s l) o:=by
 unfold kV;rw[List.foldl_append];rfl
theorem jI.len {M I:Nat}:∀{s:St} {l:List aV} {us:List mh},jI M I s l us→us.length=l.length
 |_,[],[],_=>rfl
 |_,o::os,a::us,h=>by simp[jI.len h.2]
 |_,[],_::_,h=>h.elim
 |_,_::_,[],h=>h.elim
theorem jI.snoc {M I:Nat}:∀{s:St} {l:List aV} {us:List mh} {o:aV} {a:mh},jI M I s l us→jQ M I (kV M I s l) o a→jI M I s (l++[o]) (us++[a])
 |_,[],[],_,_,_,h=>⟨h,trivial⟩
 |_,x::os,y::us,o,a,h,k=>⟨h.1,jI.snoc h.2 k⟩
 |_,[],_::_,_,_,h,_=>h.elim
 |_,_::_,[],_,_,h,_=>h.elim
theorem YU (M I:Nat)(s:St)(o:aV):(oo M I s o).gv≤s.gv+1:=by
 unfold oo
 repeat' split
 all_goals simp
theorem Ir (M I:Nat):∀(l:List aV) (s:St),(kV M I s l).gv≤s.gv+l.length
 | [],s=>by simp[kV]
 |o::l,s=>by
  have h1:=Ir M I l (oo M I s o);have h2:=YU M I s o;unfold kV at h1⊢;rw[List.foldl_cons,List.length_cons];omega
def Bl (l:List aV)(k:Nat):Nat:=((known l (k:Int)).getD 0).toNat
theorem YV {l:List aV}(hw:∀o∈l,Dz o)(k:Nat):Bl l k<18446744073709551616:=by
 unfold Bl
 cases h:known l (k:Int)with
 |none=>simp
 |some v=>
  obtain⟨o,ho,_,_,rfl⟩:=Dw _ _ _ _ rfl h;obtain⟨_,_,_,_,_,_,h1,h2,_⟩:=hw o ho;simp only[Option.getD_some];omega
theorem YW {l:List aV}(hf:free l)(hw:∀o∈l,Dz o){o:aV}(ho:o∈l)(hk:eG o.kind=true):o.hash=(Bl l o.key.toNat:Int):=by
 obtain⟨_,_,h1,h2,_,_,h3,h4,_⟩:=hw o ho;unfold Bl;rw[Int.toNat_of_nonneg h1]
 cases h:known l o.key with
 |none=>exact absurd rfl (Iq _ _ _ rfl h o ho hk)
 |some v=>
  obtain⟨x,hx,hkx,hkey,rfl⟩:=Dw _ _ _ _ rfl h;have hc:=hf o ho x hx;unfold clash at hc;rw[hk,hkx,hkey]at hc;simp only[BEq.rfl,Bool.and_self,Bool.true_and,bne_eq_false_iff_eq]at hc;simp only[Option.getD_some];omega
def oh (E:Nat→Addr)(a:mh):Value:= .agg #[.int .i64 a.kind,.int .i64 a.iter,.int .i64 a.state,.bool a.is,nU a.key,nU a.val,dK E a.err]
def jq (E:Nat→Addr)(a:mh):List Value:=[.int .i64 a.kind,.int .i64 a.iter,.int .i64 a.state,.bool a.is,nU a.key,nU a.val,dK E a.err]
def gH (W0:World)(E:Nat→Addr)(H:Nat→Nat)(K M I b:Nat)(G:List Nat)(w:World)(s:St):Prop:=
 ∃its,nP W0 E H K M I b G w s.R s.n its s.gv∧its.map It.id=s.ids∧∀i∈its,i.c.ok
def gI (W0:World)(E:Nat→Addr)(H:Nat→Nat)(K M I b:Nat)(G:List Nat)(w w':World)(s:St):Prop:=
 ∃G',gH W0 E H K M I b G' w' s∧(∀q∈G',q∈G∨w.heap.size≤q)∧Mod G w w'
section
variable {W0 : World} {E : Nat → Addr} {H : Nat → Nat} {K M I b : Nat} {G : List Nat} {w w' w2 : World} {s : St}
theorem gH.below (h:gH W0 E H K M I b G w s)(hb:Below w.heap.size w w'):gH W0 E H K M I b G w' s:=by
 obtain⟨its,h1,h2⟩:=h;exact⟨its,h1.below hb,h2⟩
theorem gH.mod {S:List Nat}(h:gH W0 E H K M I b G w s)(hm:Mod S w w')(hS:∀q∈S,q∉G∧W0.heap.size≤q):gH W0 E H K M I b G w' s:=by
 obtain⟨its,h1,h2⟩:=h;exact⟨its,h1.mod hm hS,h2⟩
theorem gH.fM (h:gH W0 E H K M I b G w s):∀q∈G,q<w.heap.size∧W0.heap.size≤q:=by
 obtain⟨its,h1,_⟩:=h;exact h1.fM
theorem gH.env (h:gH W0 E H K M I b G w s):Env W0 E w:=by
 obtain⟨its,h1,_⟩:=h;exact h1.env
theorem gH.least (h:gH W0 E H K M I b G w s):s.n≤M∧M≤192:=by
 obtain⟨its,h1,_⟩:=h;exact h1.least
theorem gI.of {its:List It}(h:vQ W0 E H K M I b G w w' s.R s.n its s.gv)(hi:its.map It.id=s.ids)(hok:∀i∈its,i.c.ok):gI W0 E H K M I b G w w' s:=by
 obtain⟨G',h1,h2,h3⟩:=h;exact⟨G',⟨its,h1,hi,hok⟩,h2,h3⟩
theorem gH.to (h:gH W0 E H K M I b G w s)(hb:Below w.heap.size w w'):gI W0 E H K M I b G w w' s:=⟨G,h.below hb,fun _ hq=> .inl hq,Mod.of_below hb G⟩
theorem gI.mod (h:gI W0 E H K M I b G w w' s):Mod G w w':=by
 obtain⟨G',_,_,h3⟩:=h;exact h3
theorem gI.next (h:gI W0 E H K M I b G w w' s)(hb:Below w'.heap.size w' w2):gI W0 E H K M I b G w w2 s:=by
 obtain⟨G',h1,h2,h3⟩:=h;exact⟨G',h1.below hb,h2,h3.trans (Mod.of_below hb G) (fun _ hk _=>hk) (fun k hk _=>hk)⟩
theorem gI.behind (h:gI W0 E H K M I b G w w' s)(hb:Below w2.heap.size w2 w):gI W0 E H K M I b G w2 w' s:=by
 obtain⟨G',h1,h2,h3⟩:=h;refine⟨G',h1,fun q hq=>(h2 q hq).elim .inl fun k=> .inr (Nat.le_trans hb.size k),(Mod.of_below hb G).trans h3 (fun _ hk _=>hk) (fun k hk _=>hk)⟩
end
end Go.Proofs.YtkkibocdfijnhaaGreatDoor

/-! Small functions of package script by their contracts. -/
namespace Go.Proofs.YtkkibocdfijnhaaGreatDoor
set_option maxRecDepth 100000
set_option maxHeartbeats 4000000
open Go QX Go.RowKit tF bV
theorem V5 (k:Int)(w:World):Calls Tryz.prog 53 #[.int .i64 k] w fun e w'=>e= .returned (.bool (isKind k))∧w=w':=by
 by_cases h1:1≤k
 ·by_cases h2:k≤8
  all_goals
   go_in;go_wp2;go_ret;exact⟨nG (by simp[isKind];omega),rfl⟩
 ·go_in;go_wp2;go_ret;exact⟨nG (by simp[isKind];omega),rfl⟩
theorem oV (k:Int)(w:World):Calls Tryz.prog 37 #[.int .i64 k] w fun e w'=>e= .returned (.bool (eG k))∧w=w':=by
 by_cases h1:k=1
 ·subst h1;go_in;go_wp2;go_ret;exact⟨rfl,rfl⟩
 ·have b1:(k==1)=false:=by simp[h1]
  by_cases h2:k=2
  ·subst h2;go_in;go_wp2;go_ret;exact⟨rfl,rfl⟩
  ·have b2:(k==2)=false:=by simp[h2]
   go_in;go_wp2;go_ret;exact⟨nG (by simp[eG,b1,b2]),rfl⟩
theorem Iu (k:Int)(w:World):Calls Tryz.prog 54 #[.int .i64 k] w fun e w'=>e= .returned (.bool (Ip k))∧w=w':=by
 by_cases h1:k=7
 ·subst h1;go_in;go_wp2;go_ret;exact⟨rfl,rfl⟩
 ·have b1:(k==7)=false:=by simp[h1]
  go_in;go_wp2;go_ret;exact⟨nG (by simp[Ip,b1]),rfl⟩
theorem DC (o:aV)(w:World):Calls Tryz.prog 29 #[BP o] w fun e w'=>e= .returned (.bool (jZ o))∧w.alloc (aas o)=w':=by
 unfold BP aas;go_in
 go_wp2_with (first
  |(go_at_call 53;refine(V5 _ _).mono ?_;rintro e w1 ⟨rfl,rfl⟩)
  |(go_at_call 37;refine(oV _ _).mono ?_;rintro e w1 ⟨rfl,rfl⟩)
  |(go_at_call 54;refine(Iu _ _).mono ?_;rintro e w1 ⟨rfl,rfl⟩))
 all_goals
  go_ret;refine⟨nG ?_, ?_⟩
  ·first|(simp_all[jZ,Ip];done)|(simp_all[jZ,Ip];omega)
  ·first|rfl|simp[*]
end Go.Proofs.YtkkibocdfijnhaaGreatDoor

/-! Package run: next and Do. No statement of the claim. -/
namespace Go.Proofs.YtkkibocdfijnhaaGreatDoor
set_option maxRecDepth 100000
set_option maxHeartbeats 4000000
open Go QX Go.RowKit tF bV
variable {s : St} {its : List It} {c c' : iU} {es : List ay} {G hs : List Nat} {it : Dv} {W0 w : World} {E : Nat → Addr} {H : Nat → Nat} {I K M b : Nat}
theorem Iw {i:Int}(hi:its.map It.id=s.ids):wK s i=its.any (fun x=>(x.id:Int)==i):=by
 unfold wK;rw[←hi,List.any_map];rfl
theorem V6 (its:List It)(id:Nat)(c:iU):(jD its id c).map It.id=its.map It.id:=by
 unfold jD;rw[List.map_map];apply List.map_congr_left;intro i _;simp only[Function.comp]
 split<;>rfl
theorem YX {id:Nat}(h:∀i∈its,i.c.ok)(hc:c.ok):∀i∈jD its id c,i.c.ok:=fun i hi=>by
 unfold jD at hi;obtain⟨j,hj,rfl⟩:=List.mem_map.1 hi;split
 ·exact hc
 ·exact h j hj
theorem lK.ok (h:lK es hs c it c')(hok:c.ok)(he:∀e∈es,e.hash<18446744073709551616):c'.ok:=by
 cases h with
 |done h=>exact hok
 |yield h hi m h1 h2 h3 h4 hm=>exact yT (he m (nO.1 hm.1).1)
 |skip h hi h1 h2 h3 h4 hm=>exact yT h3
theorem lK.told (hn:(es.map ay.key).Nodup)(h:lK es hs c it c'):1≤it.st∧it.st≤3∧(it.st=1→rA es it.key=some it.val)∧(it.st≠1→it.key=0∧it.val=0):=by
 cases h with
 |done h=>exact⟨by decide,by decide,fun h=>absurd h (by decide),fun _=>⟨rfl,rfl⟩⟩
 |yield h hi m h1 h2 h3 h4 hm=>
  refine⟨Nat.le_refl 1,by show 1≤3;decide,fun _=> ?_,fun h=>absurd rfl h⟩;have:=je hn (nO.1 hm.1).1;unfold rA;rw[this];rfl
 |skip h hi h1 h2 h3 h4 hm=>
  simp only;split
  ·exact⟨by decide,by decide,fun h=>absurd h (by decide),fun _=>by simp⟩
  ·exact⟨by decide,by decide,fun h=>absurd h (by decide),fun _=>by simp⟩
theorem j6.h64 {a:Pool}{ids:List Nat}{gv:Nat}{fC:bC}(h:j6 W0 E H K M I b G w a ids its gv fC):∀e∈a.ents,e.hash<18446744073709551616:=fun e he=>by
 obtain⟨C,GC,mb,h1,_⟩:=h;obtain⟨i,N,g1,g2⟩:=lV.1 he;exact((h1.core.facts.2.2.2.2.2.1 i N g1).hash e g2).1.h64
theorem abp (h:gH W0 E H K M I b G w s)(h6:bX E W0 6)(i:Int):
  Calls Tryz.prog 66 #[pQ b,.int .i64 i] w fun y w'=>∃(st:Int) (k v e:Nat),y= .returned (.tuple #[.agg #[.int .i64 st,nU k,nU v],dK E e])∧e=(if wK s i then 0 else 6)∧Told s e st k v∧gI W0 E H K M I b G w w' s:=by
 obtain⟨its,⟨a,ids,fC,hR,hf,hn⟩,hi,hok⟩:=h;by_cases hm:wK s i=true
 ·have hm':=hm;rw[Iw hi,List.any_eq_true]at hm';obtain⟨⟨id,cb,c⟩,hx,hid⟩:=hm';simp only[beq_iff_eq]at hid;subst hid;refine(abk hR h6 hx (hok _ hx)).mono ?_;rintro y w' ⟨it,c',jh,rfl,hN,_,hto⟩;have ht:=hN.told hR.facts.2.1;refine⟨(it.st:Int),it.key,it.val,0,rfl,by rw[if_pos hm],⟨fun h=>absurd rfl h,fun _=>⟨by omega,by omega,fun h=> ?_,fun h=>ht.2.2.2 (by omega)⟩⟩,gI.of (vQ.of hto hf hn) (by rw[V6,hi]) (YX hok (hN.ok (hok _ hx) hR.h64))⟩;rw[←hf];exact ht.2.2.1 (by omega)
 ·refine(OP hR h6 (id:=i) (fun x hx e=>hm (by rw[Iw hi,List.any_eq_true];exact⟨x,hx,by simp[e]⟩))).mono ?_;rintro y w' ⟨rfl,hto⟩;exact⟨0,0,0,6,rfl,by rw[if_neg hm],⟨fun _=>⟨rfl,rfl,rfl⟩,fun h=>absurd h (by decide)⟩,gI.of (vQ.of hto hf hn) hi hok⟩
theorem abq (h:gH W0 E H K M I b G w s)(h7:bX E W0 7)(hg:s.gv≤100000):
  Calls Tryz.prog 34 #[pQ b] w fun y w'=>y= .returned (.tuple #[.int .i64 (if s.ids.length<I then((s.gv+1:Nat):Int)else 0),dK E (if s.ids.length<I then 0 else 7)])∧gI W0 E H K M I b G w w' (if s.ids.length<I then{s with ids:=s.ids++[s.gv+1],gv:=s.gv+1} else s):=by
 obtain⟨its,⟨a,ids,fC,hR,hf,hn⟩,hi,hok⟩:=h
 have hl:its.length=s.ids.length:=by rw[←hi,List.length_map]
 by_cases hlt:s.ids.length<I
 ·simp only[if_pos hlt];refine(aa9 hR (by omega) hg).mono ?_;rintro y w' ⟨cb,rfl,hto⟩;refine⟨rfl,gI.of (s:={s with ids:=s.ids++[s.gv+1],gv:=s.gv+1}) (vQ.of hto hf hn) (by rw[List.map_append,hi];rfl) (fun i hx=> ?_)⟩;rcases List.mem_append.1 hx with hx|hx
  ·exact hok i hx
  ·rw[List.mem_singleton.1 hx];exact⟨show 0<18446744073709551616 by decide,show 0<18446744073709551616 by decide⟩
 ·simp only[if_neg hlt];refine(OQ hR (by omega) h7).mono ?_;rintro y w' ⟨rfl,hb⟩;exact⟨rfl,gH.to ⟨its,⟨a,ids,fC,hR,hf,hn⟩,hi,hok⟩ hb⟩
theorem KX:∀{its:List It} {j id cb:Nat} {c:iU},(its.map It.id).Nodup→its[j]?=some ⟨id,cb,c⟩→(its.eraseIdx j).map It.id=(its.map It.id).filter (fun(x:Nat)=> !((x:Int)==(id:Int)))
 | [],j,id,cb,c,_,h=>by simp at h
 |x::l,0,id,cb,c,hn,h=>by
  obtain rfl:x=⟨id,cb,c⟩:=by simpa using h
  simp only[List.map_cons,List.nodup_cons]at hn;simp only[List.eraseIdx_cons_zero,List.map_cons,List.filter_cons,BEq.rfl,Bool.not_true,Bool.false_eq_true,if_false];symm;rw[List.filter_eq_self];intro y hy;have:y≠id:=fun e=>hn.1 (e▸hy);simp only[Bool.not_eq_eq_eq_not,Bool.not_true,beq_eq_false_iff_ne,ne_eq];omega
 |x::l,j+1,id,cb,c,hn,h=>by
  simp only[List.map_cons,List.nodup_cons]at hn
  have h':l[j]?=some ⟨id,cb,c⟩:=by simpa using h
  have hx:x.id≠id:=fun e=>hn.1 (by rw[e];exact List.mem_map.2 ⟨_,List.mem_of_getElem? h',rfl⟩);simp only[List.eraseIdx_cons_succ,List.map_cons,List.filter_cons];rw[if_pos (by simp;omega),KX hn.2 h']
theorem YZ (h:gH W0 E H K M I b G w s)(h6:bX E W0 6)(i:Int):
  Calls Tryz.prog 36 #[pQ b,.int .i64 i] w fun y w'=>y= .returned (dK E (if wK s i then 0 else 6))∧gI W0 E H K M I b G w w' {s with ids:=s.ids.filter fun x=> !((x:Int)==i)}:=by
 obtain⟨its,⟨a,ids,fC,hR,hf,hn⟩,hi,hok⟩:=h;by_cases hm:wK s i=true
 ·have hm':=hm;rw[Iw hi,List.any_eq_true]at hm';obtain⟨⟨id,cb,c⟩,hx,hid⟩:=hm';simp only[beq_iff_eq]at hid;subst hid;obtain⟨j,hj⟩:=List.getElem?_of_mem hx;refine(YM hR hj).mono ?_;rintro y w' ⟨rfl,hto⟩;refine⟨by rw[if_pos hm];rfl,gI.of (s:={s with ids:=s.ids.filter fun x=> !((x:Int)==(id:Int))}) (vQ.of hto hf hn) ?_ (fun i hx=>hok i (List.eraseIdx_sublist its j|>.subset hx))⟩;rw[KX hR.facts.2.2.2.2.2.2.1 hj,hi]
 ·have hno:∀x∈its,(x.id:Int)≠i:=fun x hx e=>hm (by rw[Iw hi,List.any_eq_true];exact⟨x,hx,by simp[e]⟩);refine(LK hR (id:=i) hno h6).mono ?_;rintro y w' ⟨rfl,hb⟩;refine⟨by rw[if_neg hm];rfl, ?_⟩
  have hs:s.ids.filter (fun(x:Nat)=> !((x:Int)==i))=s.ids:=by
   rw[List.filter_eq_self];intro x hx;rw[←hi]at hx;obtain⟨y,hy,rfl⟩:=List.mem_map.1 hx;have:=hno y hy;simp[this]
  rw[hs];exact gH.to ⟨its,⟨a,ids,fC,hR,hf,hn⟩,hi,hok⟩ hb
theorem Y0 (h:gH W0 E H K M I b G w s)(hM:1≤M)(hI:1≤I):
  Calls Tryz.prog 33 #[pQ b] w fun y w'=>y= .returned undef∧gI W0 E H K M I b G w w' {s with R:=fun _=>none,n:=0}:=by
 obtain⟨its,⟨a,ids,fC,hR,hf,hn⟩,hi,hok⟩:=h;refine(YN hR hM hI).mono ?_;rintro y w' ⟨rfl,jh,hto⟩;refine⟨rfl,gI.of (s:={s with R:=fun _=>none,n:=0}) (vQ.of hto rfl rfl) (by rw[List.map_map,←hi];rfl) (fun i hx=> ?_)⟩;obtain⟨j,hj,rfl⟩:=List.mem_map.1 hx;exact⟨show 0<18446744073709551616 by decide,show 0<18446744073709551616 by decide⟩
def ng:Array Value:= #[.int .i64 0,.int .i64 0,.int .i64 0,.bool false,.int .u64 0,.int .u64 0,.nilIface]
def acY (s:St)(i:Int)(a:mh):Prop:=a.kind=7∧a.iter=0∧a.is=false∧a.err=(if wK s i then 0 else 6)∧Told s a.err a.state a.key a.val
theorem gI.own {S:List Nat}{W w1 V:World}(h:gI W0 E H K M I b G W w1 s)(hG:∀q∈G,q<w.heap.size)(h0:W0.heap.size≤w.heap.size)(hb:Below w.heap.size w W)(hV:Mod S w1 V)(hS:∀q∈S,(w.heap.size≤q∧q<W.heap.size)∨w1.heap.size≤q):gI W0 E H K M I b G w V s:=by
 obtain⟨G1,hD,hs,hm⟩:=h;have hle:∀q∈S,w.heap.size≤q:=fun q hq=>(hS q hq).elim And.left (fun k=>Nat.le_trans hb.size (Nat.le_trans hm.size k));refine⟨G1,hD.mod hV (fun q hq=>⟨fun hg=> ?_,Nat.le_trans h0 (hle q hq)⟩),fun q hq=>(hs q hq).imp id (Nat.le_trans hb.size),((Mod.of_below hb G).trans hm (fun _ hk _=>hk) (fun _ hk _=>hk)).trans hV (fun _ hk _=>hk) (fun k hk hl=>absurd hl (Nat.not_lt.2 (hle k hk)))⟩;rcases hS q hq with k|k
 ·rcases hs q hg with l|l
  ·exact absurd (hG q l) (Nat.not_lt.2 k.1)
  ·exact absurd k.2 (Nat.not_lt.2 l)
 ·exact absurd (hD.fM q hg).1 (Nat.not_lt.2 k)
theorem Y1 (h:gH W0 E H K M I b G w s)(h6:bX E W0 6)(i:Int):
  Calls Tryz.prog 35 #[pQ b,.int .i64 i] w fun y w'=>∃a:mh,y= .returned (oh E a)∧acY s i a∧gI W0 E H K M I b G w w' s:=by
 have hB:=(Below.refl w.heap.size w).alloc (Nat.le_refl _) (.cells ng 47);have hX:=aj.new w 47 ng;obtain⟨W,hW⟩:∃W,W=w.alloc (.cells ng 47):=⟨_,rfl⟩;rw[←hW]at hB hX;have HN:=qd (abp (h.below hB) h6 i);have HB:=qd hB;have HX:=qd hX;have HW:=qd hW;have HG:=qd (show(∀q∈G,q<w.heap.size)∧W0.heap.size≤w.heap.size from⟨fun q hq=>(h.fM q hq).1,h.env.size⟩);clear hB hX hW h h6;go_in;go_upto_region 1 with fail;have hW':=HW.out;unfold ng at hW';rw[←hW'];clear hW' HW;go_wp2_with fail;refine HN.out.mono ?_;rintro y w1 ⟨st,k,v,e,rfl,he,ht,hto⟩;have tH:=qd (HX.out.mod hto.mod (fun hq=>Nat.lt_irrefl _ (HG.out.1 _ hq)));have HT:=qd (And.intro he ht);have HTo:RowKit.Hid (∀(V:World),Mod [w.heap.size] w1 V→gI W0 E H K M I b G w V s):=qd (fun V hV=>hto.own HG.out.1 HG.out.2 HB.out hV (fun q hq=> .inl (by rw[List.mem_singleton.1 hq];exact⟨Nat.le_refl _,HX.out.lt⟩)));clear hto HN HX HB HG he ht;go_upto_region 2 with fail;refine aZ (F:=fun v'=>aj v' w1.heap.size 139 #[.int .i64 st,nU k,nU v]∧Below w1.heap.size w1 v') ⟨aj.new w1 139 #[.int .i64 st,nU k,nU v],(Below.refl w1.heap.size w1).alloc (Nat.le_refl _) _⟩ ?_;rintro w2 ⟨hI,hb2⟩;have HI:=qd hI;have OX:=qd (tH.out.below hb2 tH.out.lt);have HB2:=qd hb2;obtain⟨ib,hib⟩:∃ib,ib=w1.heap.size:=⟨_,rfl⟩;rw[←hib]at hI⊢;have i0:=hI.cell 0;have i1:=hI.cell 1;have i2:=hI.cell 2;have hx:=OX.out;unfold ng at hx;have r0:=hx.cell 0;have r1:=hx.cell 1;have r2:=hx.cell 2;have r3:=hx.cell 3
 have r4:=hx.cell 4;have r5:=hx.cell 5;have r6:=hx.cell 6;simp only[gl]at i0 i1 i2 r0 r1 r2 r3 r4 r5 r6;obtain⟨f0,f1,f2,f3,f4,f5,f6⟩:=hx.f7;clear hI hb2 hib hx HI OX tH
 have HFin:RowKit.Hid (∀(V:World) (u:Value),dK E e=u→Mod [w.heap.size] w1 V→∃a:mh,Ending.returned (.agg #[.int .i64 7,.int .i64 0,.int .i64 st,.bool false,nU k,nU v,u])= .returned (oh E a)∧acY s i a∧gI W0 E H K M I b G w V s):=
  qd fun V u hu hV=>⟨⟨7,0,st,false,k,v,e⟩,by unfold oh;rw[hu],⟨rfl,rfl,rfl,HT.out.1,HT.out.2⟩,HTo.out V hV⟩
 rcases lI E e with hu|⟨A,hu⟩
 all_goals
  have HU:=qd hu;rw[hu];clear hu;go_wp2
  first
   |refine bodyPost_ret (v:= .agg #[.int .i64 7,.int .i64 0,.int .i64 st,.bool false,nU k,nU v,.nilIface]) (by simp[results,Tryz.results35,go_sem,r0,r1,r2,r3,r4,r5,r6]) rfl (HFin.out _ _ HU.out ?_)
   |refine bodyPost_ret (v:= .agg #[.int .i64 7,.int .i64 0,.int .i64 st,.bool false,nU k,nU v,.iface 318 (.pointer (some A))]) (by simp[results,Tryz.results35,go_sem,r0,r1,r2,r3,r4,r5,r6]) rfl (HFin.out _ _ HU.out ?_)
  repeat refine Mod.ak ?_ (.inl (by simp)) _ _
  exact Mod.of_below HB2.out _
end Go.Proofs.YtkkibocdfijnhaaGreatDoor
