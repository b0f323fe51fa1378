/- The plain law of scripts: which operations are right and consistent, and which row of words is which operation. No program in sight. -/
import Derived.Test.YtkddpchpcepjgaaGreatDoorSliceP
import Derived.Test.YtkddpchpcepjgaaGreatDoorDecP
namespace Go.Proofs.YtkddpchpcepjgaaGreatDoor
theorem kt:type_of% @List.dropLast_concat_getLast:=@List.dropLast_concat_getLast
theorem kv:type_of% @Int.toNat_of_nonneg:=@Int.toNat_of_nonneg
end Go.Proofs.YtkddpchpcepjgaaGreatDoor
namespace Go.Proofs.YtkddpchpcepjgaaGreatDoor.uq
set_option maxRecDepth 100000
set_option maxHeartbeats 4000000
open Go TQ Go.RowKit uq cu
variable {o : aB} {e i : Nat}
abbrev Bytes:=List UInt8
def isKind (k:Int):Bool:=decide (1<=k) && decide (k<=8)
def zZ (k:Int):Bool:=k==7||k==8
def fU (o:aB):Bool:=
 isKind o.kind && decide (0<=o.iter) && decide (o.iter<=1000000) && (cZ o.kind||(o.key==0 && o.hash==0)) && (o.kind==2||o.val==0) && (zZ o.kind||o.iter==0)
theorem ady {k:Int}(h:isKind k=true):1<=k/\k<=8:=by
 unfold isKind at h;simpa using h
theorem R5 (h:fU o=true):isKind o.kind=true:=by
 unfold fU at h;simp only[yk]at h;exact h.1.1.1.1.1
def clash (a b:aB):Bool:=cZ a.kind && cZ b.kind && a.key==b.key && a.hash !=b.hash
def kK (pre:List aB):List aB->Option Nat
 | []=>none
 |o::t=>if pre.any (clash o)then some pre.length else kK (pre++[o]) t
def other (l:List aB):Option Nat:=kK [] l
def vJ (f:Int->Option Int)(o:aB):Int->Option Int:=if cZ o.kind then λy=>if y=o.key then some o.hash else f y else f
def known (l:List aB):Int->Option Int:=l.foldl vJ (λ_=>none)
theorem CJ (l:List aB)(o:aB):known (l++[o])=vJ (known l) o:=by simp[known]
def free (l:List aB):Prop:=∀a∈l,∀b∈l,clash a b=false
theorem EY (x h:Int):∀(n:Nat) (l:List aB),l.length=n->known l x=some h->∃o∈l,cZ o.kind=true/\o.key=x/\o.hash=h:=by
 intro n
 induction n with
 |zero=>
  intro l hl hk;obtain rfl:=xr.1 hl;cases hk
 |succ n ih=>
  intro l hl hk
  have hne:l≠[]:=λe=>by rw[e]at hl;simp at hl
  have e:=kt hne;rw[<-e,CJ]at hk;unfold vJ at hk;split at hk
  ·next hkd=>
   by_cases hx:x=(l.getLast hne).key
   ·simp only[hx,if_true]at hk;exact⟨_,List.getLast_mem hne,hkd,hx.symm,by injection hk⟩
   ·simp only[hx,xx]at hk;obtain⟨o,ho,r⟩:=ih l.dropLast (by simp;omega) hk;exact⟨o,List.dropLast_subset _ ho,r⟩
  ·obtain⟨o,ho,r⟩:=ih l.dropLast (by simp;omega) hk;exact⟨o,List.dropLast_subset _ ho,r⟩
theorem J5 (x:Int):∀(n:Nat) (l:List aB),l.length=n->known l x=none->∀o∈l,cZ o.kind=true->o.key≠x:=by
 intro n
 induction n with
 |zero=>
  intro l hl _ o ho;obtain rfl:=xr.1 hl;cases ho
 |succ n ih=>
  intro l hl hk o ho hkd
  have hne:l≠[]:=λe=>by rw[e]at hl;simp at hl
  have e:=kt hne;rw[<-e,CJ]at hk;rw[<-e]at ho;unfold vJ at hk;rcases Zs.1 ho with ho|ho
  ·refine ih l.dropLast (by simp;omega) ?_ o ho hkd;split at hk
   ·by_cases hx:x=(l.getLast hne).key
    ·simp only[hx,if_true]at hk;cases hk
    ·simpa only[hx,xx]using hk
   ·exact hk
  ·obtain rfl:o=l.getLast hne:=by simpa using ho
   rw[if_pos hkd]at hk;intro hx;rw[hx]at hk;simp at hk
theorem R6 {l:List aB}(hf:free l)(o:aB):l.any (clash o)=(cZ o.kind && match known l o.key with|some h=>h !=o.hash|none=>false):=by
 cases hkd:cZ o.kind with
 |false=>
  rw[vq,Bool.eq_false_iff];intro h;obtain⟨x,_,hx⟩:=QR.1 h;simp[clash,hkd]at hx
 |true=>
  rw[J1]
  cases hk:known l o.key with
  |none=>
   rw[Bool.eq_false_iff];intro h;obtain⟨x,hx,hc⟩:=QR.1 h;simp only[clash,yk,x7]at hc;exact J5 _ _ l rfl hk x hx hc.1.1.2 hc.1.2.symm
  |some h=>
   obtain⟨x,hx,hxk,hxe,hxh⟩:=EY _ _ _ l rfl hk;by_cases hh:h=o.hash
   ·have e:(h !=o.hash)=false:=by simp[hh]
    simp only[e];rw[Bool.eq_false_iff];intro hany;obtain⟨y,hy,hc⟩:=QR.1 hany;simp only[clash,yk,x7,bne_iff_ne]at hc;have:=hf x hx y hy;simp only[clash,hxk,hc.1.1.2,J1]at this;rw[hxe,hc.1.2]at this;simp only[beq_self_eq_true,J1,bne_eq_false_iff_eq]at this;exact hc.2 (by rw[<-hh,<-hxh,this])
   ·have e:(h !=o.hash)=true:=by simp[hh]
    simp only[e];refine QR.2 ⟨x,hx, ?_⟩;simp only[clash,hkd,hxk,hxe,hxh,J1,beq_self_eq_true];simpa using λe=>hh e.symm
theorem VJ (a b:aB):clash a b=clash b a:=by
 unfold clash;rw[xy];simp only[yk,x7,bne_iff_ne];constructor
 ·rintro⟨⟨⟨h1,h2⟩,h3⟩,h4⟩;exact⟨⟨⟨h2,h1⟩,h3.symm⟩,λe=>h4 e.symm⟩
 ·rintro⟨⟨⟨h1,h2⟩,h3⟩,h4⟩;exact⟨⟨⟨h2,h1⟩,h3.symm⟩,λe=>h4 e.symm⟩
theorem VK (a:aB):clash a a=false:=by simp[clash]
theorem M0 {l:List aB}(hf:free l)(h:l.any (clash o)=false):free (l++[o]):=by
 have H:∀b∈l,clash o b=false:=by
  intro b hb;rw[Bool.eq_false_iff]at h|-;exact λe=>h (QR.2 ⟨b,hb,e⟩)
 intro a ha b hb;rcases Zs.1 ha with ha|ha
 ·rcases Zs.1 hb with hb|hb
  ·exact hf a ha b hb
  ·have hbo:b=o:=by simpa using hb
   rw[hbo,VJ];exact H a ha
 ·obtain rfl:a=o:=by simpa using ha
  rcases Zs.1 hb with hb|hb
  ·exact H b hb
  ·obtain rfl:b=a:=by simpa using hb
   exact VK b
theorem QU:free []:=λa ha=>by cases ha
theorem EZ:∀(t pre:List aB),free pre->(kK pre t=none↔free (pre++t))
 | [],pre,h=>by simp[kK,h]
 |o::t,pre,h=>by
  rw[kK]
  cases hc:pre.any (clash o)with
  |true=>
   simp only[if_true];constructor
   ·intro e;cases e
   ·intro hf;obtain⟨x,hx,hcx⟩:=QR.1 hc;have:=hf o (by simp) x (yi _ hx);rw[hcx]at this;cases this
  |false=>
   simp only[yd,xx];rw[EZ t (pre++[o]) (M0 h hc)];simp
theorem CK {l:List aB}:other l=none↔free l:=by
 have:=EZ l [] QU;simpa[other]using this
def fV (o x:aB):Bool:=cZ x.kind && x.key==o.key
def kP (pre:List aB):List aB->List aB
 | []=> []
 |o::t=>if cZ o.kind && !pre.any (fV o)then o::kP (pre++[o]) t else kP (pre++[o]) t
def firsts (l:List aB):List aB:=kP [] l
theorem Dr (o:aB):∀(t pre:List aB),kP pre (t++[o])=kP pre t++(if cZ o.kind && !(pre++t).any (fV o)then [o]else [])
 | [],pre=>by
  simp only[ya,kP,yy]
 |x::t,pre=>by
  simp only[yb,kP,Dr o t (pre++[x])];rw[show pre++[x]++t=pre++x::t by simp]
  split<;>simp
theorem GI (l:List aB)(o:aB):firsts (l++[o])=firsts l++(if cZ o.kind && !l.any (fV o)then [o]else []):=by
 have:=Dr o l [];simpa[firsts]using this
def cnt (l:List aB)(x:Int):Nat:=l.countP λo=>cZ o.kind && o.key==x
theorem QV (l:List aB)(o:aB)(x:Int):cnt (l++[o]) x=cnt l x+if cZ o.kind && o.key==x then 1 else 0:=by
 unfold cnt;rw[List.countP_append];simp[xF]
theorem ae6 (l:List aB)(x:Int):cnt l x<=l.length:=List.countP_le_length
theorem adz (l:List aB)(o:aB):(cnt l o.key=0)↔l.any (fV o)=false:=by
 unfold cnt;rw[List.countP_eq_zero,List.any_eq_false];rfl
theorem QW (l:List aB)(o:aB):l.any (fV o)=(firsts l).any (λx=>x.key==o.key):=by
 have H:∀(n:Nat) (l:List aB),l.length=n->l.any (fV o)=(firsts l).any (λx=>x.key==o.key):=by
  intro n
  induction n with
  |zero=>intro l hl;obtain rfl:=xr.1 hl;rfl
  |succ n ih=>
   intro l hl
   have hne:l≠[]:=λe=>by rw[e]at hl;simp at hl
   have e:=kt hne;have ih':=ih l.dropLast (by simp;omega);rw[<-e,GI,kq,kq,<-ih'];generalize l.getLast hne=x;generalize l.dropLast=m at*;simp only[List.any_cons,List.any_nil,Bool.or_false];by_cases hx:x.key=o.key
   ·have e1:fV x=fV o:=by funext y;simp[fV,hx]
    rw[e1]
    cases hk:cZ x.kind with
    |false=>simp[fV,hk]
    |true=>
     cases hm:m.any (fV o)<;>simp[fV,hk,hx]
   ·have e1:fV o x=false:=by simp[fV,hx]
    rw[e1]
    split<;>simp[hx]
 exact H _ l rfl
theorem Dt (l:List aB):(firsts l).length<=l.length:=by
 have H:∀(t pre:List aB),(kP pre t).length<=t.length:=by
  intro t
  induction t with
  |nil=>intro pre;simp[kP]
  |cons o t ih=>
   intro pre;have:=ih (pre++[o]);rw[kP]
   split<;>simp<;>omega
 exact H l []
def names:List Bytes:=[[],[103,101,116],[112,117,116],[100,101,108],[108,101,110],[99,108,101,97,114],[111,112,101,110],[110,101,120,116],[99,108,111,115,101]]
def agZ (k:Int):Bytes:=if isKind k then names.getD k.toNat []else []
def kindOf (w:Bytes):Nat:=
 if w=[103,101,116]then 1 else if w=[112,117,116]then 2 else if w=[100,101,108]then 3 else if w=[108,101,110]then 4 else if w=[99,108,101,97,114]then 5
 else if w=[111,112,101,110]then 6 else if w=[110,101,120,116]then 7 else if w=[99,108,111,115,101]then 8 else 0
def ae7 (k:Nat):Nat:=if k=1\/k=3 then 2 else if k=2 then 3 else if k=7\/k=8 then 1 else 0
def agK (k:Nat)(w:Bytes):Except Nat Nat:=
 if 7<=k then(match dec w with|none=> .error 13|some n=>if 1000000<n then .error 1 else .ok n)
 else(match numOf w with|none=> .error 13|some n=> .ok n)
def acD (k:Nat)(acc:List Nat):List Bytes->Except Nat (List Nat)
 | []=> .ok acc
 |w::r=>match agK k w with
  | .error e=> .error e
  | .ok n=>acD k (acc++[n]) r
def agL (k:Nat)(ns:List Nat):aB:=
 {kind:=k,key:=if k<=3 then(ns.getD 0 0:Nat)else 0,val:=if k=2 then(ns.getD 1 0:Nat)else 0,hash:=if k<=3 then(ns.getD (ns.length-1) 0:Nat)else 0,iter:=if 7<=k then(ns.getD 0 0:Nat)else 0}
def one:List Bytes->Except Nat aB
 | []=> .error 15
 |w::r=>if kindOf w=0 then .error 15 else if r.length≠ae7 (kindOf w)then .error 3 else
  match acD (kindOf w) [] r with
  | .error e=> .error e
  | .ok ns=> .ok (agL (kindOf w) ns)
end Go.Proofs.YtkddpchpcepjgaaGreatDoor.uq

/-! Rows of operations in memory. No statement of the claim. -/
namespace Go.Proofs.YtkddpchpcepjgaaGreatDoor
set_option maxRecDepth 100000
set_option maxHeartbeats 4000000
open Go TQ Go.RowKit uq cu
variable {k : Nat} {l : List aB} {o : aB} {x : Int}
def oo (o:aB):List Value:=[.int .i64 o.kind,.int .u64 o.key,.int .u64 o.val,.int .u64 o.hash,.int .i64 o.iter]
def oq (o:aB):Value:= .agg #[.int .i64 o.kind,.int .u64 o.key,.int .u64 o.val,.int .u64 o.hash,.int .i64 o.iter]
def aQ (l:List aB):List Value:=l.flatMap oo
theorem dZ (l:List aB):(aQ l).length=l.length*5:=by
 induction l with
 |nil=>rfl
 |cons o t ih=>
  have:(aQ (o::t)).length=5+(aQ t).length:=by simp[aQ,oo];omega
  rw[this,ih,ZS];omega
theorem E5 (l:List aB)(k:Nat)(o:aB)(h:l[k]?=some o):
  (aQ l)[k*5]?=some (.int .i64 o.kind)/\(aQ l)[k*5+1]?=some (.int .u64 o.key)/\(aQ l)[k*5+2]?=some (.int .u64 o.val)/\
  (aQ l)[k*5+3]?=some (.int .u64 o.hash)/\(aQ l)[k*5+4]?=some (.int .i64 o.iter):=by
 have hk:k<l.length:=(zz.1 h).1
 have hl:l=l.take k++o::l.drop (k+1):=by
  have h1:=(zz.1 h).2;rw[<-h1,<-ke hk,JP]
 have e:aQ l=aQ (l.take k)++(oo o++aQ (l.drop (k+1))):=by
  conv=>lhs;rw[hl]
  simp[aQ]
 have hlen:(aQ (l.take k)).length=k*5:=by rw[dZ,qn];rw[vz (by omega)]
 have H:∀j,j<5->(aQ l)[k*5+j]?=(oo o)[j]?:=by
  intro j hj;rw[e,Z1 (by omega),hlen,Z2 (by simp[oo];omega)];congr 1;omega
 refine⟨?_, ?_, ?_, ?_, ?_⟩
 ·exact H 0 (by omega)
 ·exact H 1 (by omega)
 ·exact H 2 (by omega)
 ·exact H 3 (by omega)
 ·exact H 4 (by omega)
theorem jE {wr:World}{B:Nat}{A:Option Addr}{n:Nat}(h:Reads wr B 5 A n (aQ l))(ho:l[k]?=some o):∃b off,A=some ⟨b,off,none⟩/\b<B/\
  wr.cell? ⟨b,off+k*5,none⟩=some (.int .i64 o.kind)/\wr.cell? ⟨b,off+k*5+1,none⟩=some (.int .u64 o.key)/\wr.cell? ⟨b,off+k*5+2,none⟩=some (.int .u64 o.val)/\
  wr.cell? ⟨b,off+k*5+3,none⟩=some (.int .u64 o.hash)/\wr.cell? ⟨b,off+k*5+4,none⟩=some (.int .i64 o.iter):=by
 have hk:k<l.length:=(zz.1 ho).1
 have hn:0<n:=by have:=h.1;rw[dZ]at this;omega
 obtain⟨b,off,rfl,hb,hc⟩:=h.Ol hn;obtain⟨o0,o1,o2,o3,o4⟩:=E5 l k o ho;exact⟨b,off,rfl,hb,hc _ _ o0,hc _ _ o1,hc _ _ o2,hc _ _ o3,hc _ _ o4⟩
theorem adA:(Tryz.prog.info? 45).map (λi=>(i.zero,i.size,i.bytes))=some (some (.agg #[.int .i64 0,.int .u64 0,.int .u64 0,.int .u64 0,.int .i64 0]),5,40):=by kernel_rfl
theorem adB:sZ Tryz.prog 24 45 5 40:=BO Tryz.underlying24 adA rfl (by decide) (by decide)
def acE (o:aB):Obj:= .cells #[.int .i64 o.kind,.int .u64 o.key,.int .u64 o.val,.int .u64 o.hash,.int .i64 o.iter] 45
def pz (o:aB):Prop:= -9223372036854775808<=o.kind/\o.kind<9223372036854775808/\0<=o.key/\o.key<18446744073709551616/\0<=o.val/\o.val<18446744073709551616/\0<=o.hash/\o.hash<18446744073709551616/\
 -9223372036854775808<=o.iter/\o.iter<9223372036854775808
theorem min_u64:IntKind.u64.min=0:=by decide
theorem max_u64:IntKind.u64.max=18446744073709551615:=by decide
theorem min_i64:IntKind.i64.min= -9223372036854775808:=by decide
theorem max_i64:IntKind.i64.max=9223372036854775807:=by decide
theorem wf_u64 (h0:0<=x)(h1:x<18446744073709551616):(Lit.int .u64 x).wf=true:=by
 unfold Lit.wf;simp only[min_u64,max_u64,yk,Kf];omega
theorem wf_i64 (h0: -9223372036854775808<=x)(h1:x<9223372036854775808):(Lit.int .i64 x).wf=true:=by
 unfold Lit.wf;simp only[min_i64,max_i64,yk,Kf];omega
theorem iy (h:l[k]?=some o):l.take (k+1)=l.take k++[o]:=by
 rw[J0,h];rfl
theorem TR (h:l[k]?=some o):l.drop k=o::l.drop (k+1):=by
 obtain⟨h1,h2⟩:=zz.1 h;rw[ke h1,h2]
end Go.Proofs.YtkddpchpcepjgaaGreatDoor

/-! Scripts done on a map, plainly: what each operation answers, and what is there behind it. No statement of the claim. -/
namespace Go.Proofs.YtkddpchpcepjgaaGreatDoor
set_option maxRecDepth 100000
set_option maxHeartbeats 4000000
open Go TQ Go.RowKit uq cu
structure St where
 R:Nat->Option Nat
 n:Nat
 ids:List Nat
 gv:Nat
def ko:St:=⟨λ_=>none,0,[],0⟩
structure uw where
 kind:Int
 iter:Int
 state:Int
 is:Bool
 key:Nat
 val:Nat
 err:Nat
deriving DecidableEq
def yj (s:St)(i:Int):Bool:=s.ids.any λx=>(x:Int)==i
def iN (M I:Nat)(s:St)(o:aB):St:=
 if o.kind=2 then{s with R:=CF M s.R s.n o.key.toNat o.val.toNat,n:=AJ M (s.R o.key.toNat) s.n}
 else if o.kind=3 then{s with R:=rM s.R o.key.toNat,n:=Io (s.R o.key.toNat) s.n}
 else if o.kind=5 then{s with R:=λ_=>none,n:=0}
 else if o.kind=6 then(if s.ids.length<I then{s with ids:=s.ids++[s.gv+1],gv:=s.gv+1} else s)
 else if o.kind=8 then{s with ids:=s.ids.filter λx=> !((x:Int)==o.iter)}
 else s
def kr (M I:Nat)(s:St)(o:aB):uw where
 kind:=o.kind
 iter:=if o.kind=6/\s.ids.length<I then((s.gv+1:Nat):Int)else 0
 state:=0
 is:=if o.kind=1\/o.kind=3 then(s.R o.key.toNat).isSome else false
 key:=0
 val:=if o.kind=1 then(s.R o.key.toNat).getD 0 else if o.kind=4 then s.n else 0
 err:=if o.kind=2 then(if noRoom M (s.R o.key.toNat) s.n then 2 else 0)else if o.kind=6 then(if s.ids.length<I then 0 else 7)else if o.kind=7\/o.kind=8 then(if yj s o.iter then 0 else 6)else 0
def Told (s:St)(err:Nat)(state:Int)(key val:Nat):Prop:=
 (err≠0->state=0/\key=0/\val=0)/\(err=0->1<=state/\state<=3/\(state=1->s.R key=some val)/\(state≠1->key=0/\val=0))
def jm (M I:Nat)(s:St)(o:aB)(a:uw):Prop:=
 if o.kind=7 then a.kind=7/\a.iter=0/\a.is=false/\a.err=(kr M I s o).err/\Told s a.err a.state a.key a.val else a=kr M I s o
def jS (M I:Nat):St->List aB->List uw->Prop
 |_,[],[]=>True
 |s,o::os,a::us=>jm M I s o a/\jS M I (iN M I s o) os us
 |_,_,_=>False
def eG (M I:Nat)(s:St)(l:List aB):St:=l.foldl (iN M I) s
theorem E8 (M I:Nat)(s:St)(l:List aB)(o:aB):eG M I s (l++[o])=iN M I (eG M I s l) o:=by
 unfold eG;rw[KB];rfl
theorem jS.len {M I:Nat}:∀{s:St} {l:List aB} {us:List uw},jS M I s l us->us.length=l.length
 |_,[],[],_=>rfl
 |_,o::os,a::us,h=>by simp[jS.len h.2]
 |_,[],_::_,h=>h.elim
 |_,_::_,[],h=>h.elim
theorem jS.snoc {M I:Nat}:∀{s:St} {l:List aB} {us:List uw} {o:aB} {a:uw},jS M I s l us->jm M I (eG M I s l) o a->jS M I s (l++[o]) (us++[a])
 |_,[],[],_,_,_,h=>⟨h,trivial⟩
 |_,x::os,y::us,o,a,h,k=>⟨h.1,jS.snoc h.2 k⟩
 |_,[],_::_,_,_,h,_=>h.elim
 |_,_::_,[],_,_,h,_=>h.elim
theorem abz (M I:Nat)(s:St)(o:aB):(iN M I s o).gv<=s.gv+1:=by
 unfold iN
 repeat' split
 all_goals simp
theorem CO (M I:Nat):∀(l:List aB) (s:St),(eG M I s l).gv<=s.gv+l.length
 | [],s=>by simp[eG]
 |o::l,s=>by
  have h1:=CO M I l (iN M I s o);have h2:=abz M I s o;unfold eG at h1|-;rw[ju,ZS];omega
def lg (l:List aB)(k:Nat):Nat:=((known l (k:Int)).getD 0).toNat
theorem Iq {l:List aB}(hw:∀o∈l,pz o)(k:Nat):lg l k<18446744073709551616:=by
 unfold lg
 cases h:known l (k:Int)with
 |none=>simp
 |some v=>
  obtain⟨o,ho,_,_,rfl⟩:=EY _ _ _ _ rfl h;obtain⟨_,_,_,_,_,_,h1,h2,_⟩:=hw o ho;simp only[Ys];omega
theorem Ir {l:List aB}(hf:free l)(hw:∀o∈l,pz o){o:aB}(ho:o∈l)(hk:cZ o.kind=true):o.hash=(lg l o.key.toNat:Int):=by
 obtain⟨_,_,h1,h2,_,_,h3,h4,_⟩:=hw o ho;unfold lg;rw[kv h1]
 cases h:known l o.key with
 |none=>exact absurd rfl (J5 _ _ _ rfl h o ho hk)
 |some v=>
  obtain⟨x,hx,hkx,hkey,rfl⟩:=EY _ _ _ _ rfl h;have hc:=hf o ho x hx;unfold clash at hc;rw[hk,hkx,hkey]at hc;simp only[BEq.rfl,Bool.and_self,J1,bne_eq_false_iff_eq]at hc;simp only[Ys];omega
def rO (E:Nat->Addr)(a:uw):Value:= .agg #[.int .i64 a.kind,.int .i64 a.iter,.int .i64 a.state,.bool a.is,nU a.key,nU a.val,eT E a.err]
def qw (E:Nat->Addr)(a:uw):List Value:=[.int .i64 a.kind,.int .i64 a.iter,.int .i64 a.state,.bool a.is,nU a.key,nU a.val,eT E a.err]
def gK (W0:World)(E:Nat->Addr)(H:Nat->Nat)(K M I b:Nat)(G:List Nat)(w:World)(s:St):Prop:=
 ∃its,oQ W0 E H K M I b G w s.R s.n its s.gv/\its.map It.id=s.ids/\∀i∈its,i.c.ok
def gM (W0:World)(E:Nat->Addr)(H:Nat->Nat)(K M I b:Nat)(G:List Nat)(w w':World)(s:St):Prop:=
 ∃G',gK W0 E H K M I b G' w' s/\(∀q∈G',q∈G\/w.heap.size<=q)/\Mod G w w'
section
variable {W0 : World} {E : Nat -> Addr} {H : Nat -> Nat} {K M I b : Nat} {G : List Nat} {w w' w2 : World} {s : St}
theorem gK.below (h:gK W0 E H K M I b G w s)(hb:Below w.heap.size w w'):gK W0 E H K M I b G w' s:=by
 obtain⟨its,h1,h2⟩:=h;exact⟨its,h1.below hb,h2⟩
theorem gK.mod {S:List Nat}(h:gK W0 E H K M I b G w s)(hm:Mod S w w')(hS:∀q∈S,q∉G/\W0.heap.size<=q):gK W0 E H K M I b G w' s:=by
 obtain⟨its,h1,h2⟩:=h;exact⟨its,h1.mod hm hS,h2⟩
theorem gK.fC (h:gK W0 E H K M I b G w s):∀q∈G,q<w.heap.size/\W0.heap.size<=q:=by
 obtain⟨its,h1,_⟩:=h;exact h1.fC
theorem gK.env (h:gK W0 E H K M I b G w s):Env W0 E w:=by
 obtain⟨its,h1,_⟩:=h;exact h1.env
theorem gK.least (h:gK W0 E H K M I b G w s):s.n<=M/\M<=192:=by
 obtain⟨its,h1,_⟩:=h;exact h1.least
theorem gM.of {its:List It}(h:xC W0 E H K M I b G w w' s.R s.n its s.gv)(hi:its.map It.id=s.ids)(hok:∀i∈its,i.c.ok):gM W0 E H K M I b G w w' s:=by
 obtain⟨G',h1,h2,h3⟩:=h;exact⟨G',⟨its,h1,hi,hok⟩,h2,h3⟩
theorem gK.to (h:gK W0 E H K M I b G w s)(hb:Below w.heap.size w w'):gM W0 E H K M I b G w w' s:=⟨G,h.below hb,λ_ hq=> .inl hq,Mod.of_below hb G⟩
theorem gM.mod (h:gM W0 E H K M I b G w w' s):Mod G w w':=by
 obtain⟨G',_,_,h3⟩:=h;exact h3
theorem gM.next (h:gM W0 E H K M I b G w w' s)(hb:Below w'.heap.size w' w2):gM W0 E H K M I b G w w2 s:=by
 obtain⟨G',h1,h2,h3⟩:=h;exact⟨G',h1.below hb,h2,h3.trans (Mod.of_below hb G) (λ_ hk _=>hk) (λk hk _=>hk)⟩
theorem gM.behind (h:gM W0 E H K M I b G w w' s)(hb:Below w2.heap.size w2 w):gM W0 E H K M I b G w2 w' s:=by
 obtain⟨G',h1,h2,h3⟩:=h;refine⟨G',h1,λq hq=>(h2 q hq).elim .inl λk=> .inr (qf hb.size k),(Mod.of_below hb G).trans h3 (λ_ hk _=>hk) (λk hk _=>hk)⟩
end
end Go.Proofs.YtkddpchpcepjgaaGreatDoor

/-! Small functions of package script by their contracts. -/
namespace Go.Proofs.YtkddpchpcepjgaaGreatDoor
set_option maxRecDepth 100000
set_option maxHeartbeats 4000000
open Go TQ Go.RowKit uq cu
theorem YF (k:Int)(w:World):Calls Tryz.prog 64 #[.int .i64 k] w λe w'=>e= .returned (.bool (isKind k))/\w=w':=by
 by_cases h1:1<=k
 ·by_cases h2:k<=8
  all_goals
   go_in;go_wp2;go_ret;exact⟨jw (by simp[isKind];omega),rfl⟩
 ·go_in;go_wp2;go_ret;exact⟨jw (by simp[isKind];omega),rfl⟩
theorem qx (k:Int)(w:World):Calls Tryz.prog 46 #[.int .i64 k] w λe w'=>e= .returned (.bool (cZ k))/\w=w':=by
 by_cases h1:k=1
 ·subst h1;go_in;go_wp2;go_ret;exact⟨rfl,rfl⟩
 ·have b1:(k==1)=false:=by simp[h1]
  by_cases h2:k=2
  ·subst h2;go_in;go_wp2;go_ret;exact⟨rfl,rfl⟩
  ·have b2:(k==2)=false:=by simp[h2]
   go_in;go_wp2;go_ret;exact⟨jw (by simp[cZ,b1,b2]),rfl⟩
theorem J6 (k:Int)(w:World):Calls Tryz.prog 65 #[.int .i64 k] w λe w'=>e= .returned (.bool (zZ k))/\w=w':=by
 by_cases h1:k=7
 ·subst h1;go_in;go_wp2;go_ret;exact⟨rfl,rfl⟩
 ·have b1:(k==7)=false:=by simp[h1]
  go_in;go_wp2;go_ret;exact⟨jw (by simp[zZ,b1]),rfl⟩
theorem E9 (o:aB)(w:World):Calls Tryz.prog 38 #[oq o] w λe w'=>e= .returned (.bool (fU o))/\w.alloc (acE o)=w':=by
 unfold oq acE;go_in
 go_wp2_with (first
  |(go_at_call 64;refine(YF _ _).mono ?_;rintro e w1 ⟨rfl,rfl⟩)
  |(go_at_call 46;refine(qx _ _).mono ?_;rintro e w1 ⟨rfl,rfl⟩)
  |(go_at_call 65;refine(J6 _ _).mono ?_;rintro e w1 ⟨rfl,rfl⟩))
 all_goals
  go_ret;refine⟨jw ?_, ?_⟩
  ·first|(simp_all[fU,zZ];done)|(simp_all[fU,zZ];omega)
  ·first|rfl|simp[*]
end Go.Proofs.YtkddpchpcepjgaaGreatDoor

/-! Package run: next and Do. No statement of the claim. -/
namespace Go.Proofs.YtkddpchpcepjgaaGreatDoor
set_option maxRecDepth 100000
set_option maxHeartbeats 4000000
open Go TQ Go.RowKit uq cu
variable {s : St} {its : List It} {c c' : jl} {es : List ay} {G hs : List Nat} {it : ET} {W0 w : World} {E : Nat -> Addr} {H : Nat -> Nat} {I K M b : Nat}
theorem J7 {i:Int}(hi:its.map It.id=s.ids):yj s i=its.any (λx=>(x.id:Int)==i):=by
 unfold yj;rw[<-hi,List.any_map];rfl
theorem YG (its:List It)(id:Nat)(c:jl):(jY its id c).map It.id=its.map It.id:=by
 unfold jY;rw[js];apply jx;intro i _;simp only[Function.comp]
 split<;>rfl
theorem abA {id:Nat}(h:∀i∈its,i.c.ok)(hc:c.ok):∀i∈jY its id c,i.c.ok:=λi hi=>by
 unfold jY at hi;obtain⟨j,hj,rfl⟩:=Z3.1 hi;split
 ·exact hc
 ·exact h j hj
theorem mO.ok (h:mO es hs c it c')(hok:c.ok)(he:∀e∈es,e.hash<18446744073709551616):c'.ok:=by
 cases h with
 |done h=>exact hok
 |yield h hi m h1 h2 h3 h4 hm=>exact zX (he m (oP.1 hm.1).1)
 |skip h hi h1 h2 h3 h4 hm=>exact zX h3
theorem mO.told (hn:(es.map ay.key).Nodup)(h:mO es hs c it c'):1<=it.st/\it.st<=3/\(it.st=1->sQ es it.key=some it.val)/\(it.st≠1->it.key=0/\it.val=0):=by
 cases h with
 |done h=>exact⟨by decide,by decide,λh=>absurd h (by decide),λ_=>⟨rfl,rfl⟩⟩
 |yield h hi m h1 h2 h3 h4 hm=>
  refine⟨zb 1,by show 1<=3;decide,λ_=> ?_,λh=>absurd rfl h⟩;have:=jI hn (oP.1 hm.1).1;unfold sQ;rw[this];rfl
 |skip h hi h1 h2 h3 h4 hm=>
  simp only;split
  ·exact⟨by decide,by decide,λh=>absurd h (by decide),λ_=>by simp⟩
  ·exact⟨by decide,by decide,λh=>absurd h (by decide),λ_=>by simp⟩
theorem kY.h64 {a:Pool}{ids:List Nat}{gv:Nat}{fK:bE}(h:kY W0 E H K M I b G w a ids its gv fK):∀e∈a.ents,e.hash<18446744073709551616:=λe he=>by
 obtain⟨C,GC,mb,h1,_⟩:=h;obtain⟨i,N,g1,g2⟩:=ng.1 he;exact((h1.core.facts.2.2.2.2.2.1 i N g1).hash e g2).1.h64
theorem adC (h:gK W0 E H K M I b G w s)(h6:bY E W0 6)(i:Int):
  Calls Tryz.prog 77 #[pQ b,.int .i64 i] w λy w'=>∃(st:Int) (k v e:Nat),y= .returned (.tuple #[.agg #[.int .i64 st,nU k,nU v],eT E e])/\e=(if yj s i then 0 else 6)/\Told s e st k v/\gM W0 E H K M I b G w w' s:=by
 obtain⟨its,⟨a,ids,fK,hR,hf,hn⟩,hi,hok⟩:=h;by_cases hm:yj s i=true
 ·have hm':=hm;rw[J7 hi,QR]at hm';obtain⟨⟨id,cb,c⟩,hx,hid⟩:=hm';simp only[x7]at hid;subst hid;refine(adw hR h6 hx (hok _ hx)).mono ?_;rintro y w' ⟨it,c',jM,rfl,hN,_,hto⟩;have ht:=hN.told hR.facts.2.1;refine⟨(it.st:Int),it.key,it.val,0,rfl,by rw[if_pos hm],⟨λh=>absurd rfl h,λ_=>⟨by omega,by omega,λh=> ?_,λh=>ht.2.2.2 (by omega)⟩⟩,gM.of (xC.of hto hf hn) (by rw[YG,hi]) (abA hok (hN.ok (hok _ hx) hR.h64))⟩;rw[<-hf];exact ht.2.2.1 (by omega)
 ·refine(QN hR h6 (id:=i) (λx hx e=>hm (by rw[J7 hi,QR];exact⟨x,hx,by simp[e]⟩))).mono ?_;rintro y w' ⟨rfl,hto⟩;exact⟨0,0,0,6,rfl,by rw[if_neg hm],⟨λ_=>⟨rfl,rfl,rfl⟩,λh=>absurd h (by decide)⟩,gM.of (xC.of hto hf hn) hi hok⟩
theorem adD (h:gK W0 E H K M I b G w s)(h7:bY E W0 7)(hg:s.gv<=100000):
  Calls Tryz.prog 43 #[pQ b] w λy w'=>y= .returned (.tuple #[.int .i64 (if s.ids.length<I then((s.gv+1:Nat):Int)else 0),eT E (if s.ids.length<I then 0 else 7)])/\gM W0 E H K M I b G w w' (if s.ids.length<I then{s with ids:=s.ids++[s.gv+1],gv:=s.gv+1} else s):=by
 obtain⟨its,⟨a,ids,fK,hR,hf,hn⟩,hi,hok⟩:=h
 have hl:its.length=s.ids.length:=by rw[<-hi,qS]
 by_cases hlt:s.ids.length<I
 ·simp only[if_pos hlt];refine(ado hR (by omega) hg).mono ?_;rintro y w' ⟨cb,rfl,hto⟩;refine⟨rfl,gM.of (s:={s with ids:=s.ids++[s.gv+1],gv:=s.gv+1}) (xC.of hto hf hn) (by rw[jn,hi];rfl) (λi hx=> ?_)⟩;rcases Zs.1 hx with hx|hx
  ·exact hok i hx
  ·rw[zj.1 hx];exact⟨show 0<18446744073709551616 by decide,show 0<18446744073709551616 by decide⟩
 ·simp only[if_neg hlt];refine(QO hR (by omega) h7).mono ?_;rintro y w' ⟨rfl,hb⟩;exact⟨rfl,gK.to ⟨its,⟨a,ids,fK,hR,hf,hn⟩,hi,hok⟩ hb⟩
theorem M4:∀{its:List It} {j id cb:Nat} {c:jl},(its.map It.id).Nodup->its[j]?=some ⟨id,cb,c⟩->(its.eraseIdx j).map It.id=(its.map It.id).filter (λ(x:Nat)=> !((x:Int)==(id:Int)))
 | [],j,id,cb,c,_,h=>by simp at h
 |x::l,0,id,cb,c,hn,h=>by
  obtain rfl:x=⟨id,cb,c⟩:=by simpa using h
  simp only[ye,qa]at hn;simp only[List.eraseIdx_cons_zero,ye,xf,BEq.rfl,vy,yd,xx];symm;rw[List.filter_eq_self];intro y hy;have:y≠id:=λe=>hn.1 (e▸hy);simp only[Bool.not_eq_eq_eq_not,vy,xj,ne_eq];omega
 |x::l,j+1,id,cb,c,hn,h=>by
  simp only[ye,qa]at hn
  have h':l[j]?=some ⟨id,cb,c⟩:=by simpa using h
  have hx:x.id≠id:=λe=>hn.1 (by rw[e];exact Z3.2 ⟨_,zE h',rfl⟩);simp only[List.eraseIdx_cons_succ,ye,xf];rw[if_pos (by simp;omega),M4 hn.2 h']
theorem abB (h:gK W0 E H K M I b G w s)(h6:bY E W0 6)(i:Int):
  Calls Tryz.prog 45 #[pQ b,.int .i64 i] w λy w'=>y= .returned (eT E (if yj s i then 0 else 6))/\gM W0 E H K M I b G w w' {s with ids:=s.ids.filter λx=> !((x:Int)==i)}:=by
 obtain⟨its,⟨a,ids,fK,hR,hf,hn⟩,hi,hok⟩:=h;by_cases hm:yj s i=true
 ·have hm':=hm;rw[J7 hi,QR]at hm';obtain⟨⟨id,cb,c⟩,hx,hid⟩:=hm';simp only[x7]at hid;subst hid;obtain⟨j,hj⟩:=qs hx;refine(abq hR hj).mono ?_;rintro y w' ⟨rfl,hto⟩;refine⟨by rw[if_pos hm];rfl,gM.of (s:={s with ids:=s.ids.filter λx=> !((x:Int)==(id:Int))}) (xC.of hto hf hn) ?_ (λi hx=>hok i (List.eraseIdx_sublist its j|>.subset hx))⟩;rw[M4 hR.facts.2.2.2.2.2.2.1 hj,hi]
 ·have hno:∀x∈its,(x.id:Int)≠i:=λx hx e=>hm (by rw[J7 hi,QR];exact⟨x,hx,by simp[e]⟩);refine(N8 hR (id:=i) hno h6).mono ?_;rintro y w' ⟨rfl,hb⟩;refine⟨by rw[if_neg hm];rfl, ?_⟩
  have hs:s.ids.filter (λ(x:Nat)=> !((x:Int)==i))=s.ids:=by
   rw[List.filter_eq_self];intro x hx;rw[<-hi]at hx;obtain⟨y,hy,rfl⟩:=Z3.1 hx;have:=hno y hy;simp[this]
  rw[hs];exact gK.to ⟨its,⟨a,ids,fK,hR,hf,hn⟩,hi,hok⟩ hb
theorem abC (h:gK W0 E H K M I b G w s)(hM:1<=M)(hI:1<=I):
  Calls Tryz.prog 42 #[pQ b] w λy w'=>y= .returned undef/\gM W0 E H K M I b G w w' {s with R:=λ_=>none,n:=0}:=by
 obtain⟨its,⟨a,ids,fK,hR,hf,hn⟩,hi,hok⟩:=h;refine(abr hR hM hI).mono ?_;rintro y w' ⟨rfl,jM,hto⟩;refine⟨rfl,gM.of (s:={s with R:=λ_=>none,n:=0}) (xC.of hto rfl rfl) (by rw[js,<-hi];rfl) (λi hx=> ?_)⟩;obtain⟨j,hj,rfl⟩:=Z3.1 hx;exact⟨show 0<18446744073709551616 by decide,show 0<18446744073709551616 by decide⟩
def ou:Array Value:= #[.int .i64 0,.int .i64 0,.int .i64 0,.bool false,.int .u64 0,.int .u64 0,.nilIface]
def ae8 (s:St)(i:Int)(a:uw):Prop:=a.kind=7/\a.iter=0/\a.is=false/\a.err=(if yj s i then 0 else 6)/\Told s a.err a.state a.key a.val
theorem gM.own {S:List Nat}{W w1 V:World}(h:gM W0 E H K M I b G W w1 s)(hG:∀q∈G,q<w.heap.size)(h0:W0.heap.size<=w.heap.size)(hb:Below w.heap.size w W)(hV:Mod S w1 V)(hS:∀q∈S,(w.heap.size<=q/\q<W.heap.size)\/w1.heap.size<=q):gM W0 E H K M I b G w V s:=by
 obtain⟨G1,hD,hs,hm⟩:=h;have hle:∀q∈S,w.heap.size<=q:=λq hq=>(hS q hq).elim And.left (λk=>qf hb.size (qf hm.size k));refine⟨G1,hD.mod hV (λq hq=>⟨λhg=> ?_,qf h0 (hle q hq)⟩),λq hq=>(hs q hq).imp id (qf hb.size),((Mod.of_below hb G).trans hm (λ_ hk _=>hk) (λ_ hk _=>hk)).trans hV (λ_ hk _=>hk) (λk hk hl=>absurd hl (Nat.not_lt.2 (hle k hk)))⟩;rcases hS q hq with k|k
 ·rcases hs q hg with l|l
  ·exact absurd (hG q l) (Nat.not_lt.2 k.1)
  ·exact absurd k.2 (Nat.not_lt.2 l)
 ·exact absurd (hD.fC q hg).1 (Nat.not_lt.2 k)
theorem abD (h:gK W0 E H K M I b G w s)(h6:bY E W0 6)(i:Int):
  Calls Tryz.prog 44 #[pQ b,.int .i64 i] w λy w'=>∃a:uw,y= .returned (rO E a)/\ae8 s i a/\gM W0 E H K M I b G w w' s:=by
 have hB:=(Below.refl w.heap.size w).alloc (zb _) (.cells ou 56);have hX:=aj.new w 56 ou;obtain⟨W,hW⟩:∃W,W=w.alloc (.cells ou 56):=⟨_,rfl⟩;rw[<-hW]at hB hX;have HN:=qd (adC (h.below hB) h6 i);have HB:=qd hB;have HX:=qd hX;have HW:=qd hW;have HG:=qd (show(∀q∈G,q<w.heap.size)/\W0.heap.size<=w.heap.size from⟨λq hq=>(h.fC q hq).1,h.env.size⟩);clear hB hX hW h h6;go_in;go_upto_region 1 with fail;have hW':=HW.o;unfold ou at hW';rw[<-hW'];clear hW' HW;go_wp2_with fail;refine HN.o.mono ?_;rintro y w1 ⟨st,k,v,e,rfl,he,ht,hto⟩;have BK:=qd (HX.o.mod hto.mod (λhq=>Nat.lt_irrefl _ (HG.o.1 _ hq)));have HT:=qd (And.intro he ht);have HTo:Hqq (∀(V:World),Mod [w.heap.size] w1 V->gM W0 E H K M I b G w V s):=qd (λV hV=>hto.own HG.o.1 HG.o.2 HB.o hV (λq hq=> .inl (by rw[zj.1 hq];exact⟨zb _,HX.o.lt⟩)));clear hto HN HX HB HG he ht;go_upto_region 2 with fail;refine aY (F:=λv'=>aj v' w1.heap.size 145 #[.int .i64 st,nU k,nU v]/\Below w1.heap.size w1 v') ⟨aj.new w1 145 #[.int .i64 st,nU k,nU v],(Below.refl w1.heap.size w1).alloc (zb _) _⟩ ?_;rintro w2 ⟨hI,hb2⟩;have HI:=qd hI;have QX:=qd (BK.o.below hb2 BK.o.lt);have HB2:=qd hb2;obtain⟨ib,hib⟩:∃ib,ib=w1.heap.size:=⟨_,rfl⟩;rw[<-hib]at hI|-;have i0:=hI.cell 0;have i1:=hI.cell 1;have i2:=hI.cell 2;have hx:=QX.o;unfold ou at hx;have r0:=hx.cell 0;have r1:=hx.cell 1;have r2:=hx.cell 2;have r3:=hx.cell 3
 have r4:=hx.cell 4;have r5:=hx.cell 5;have r6:=hx.cell 6;simp only[gl]at i0 i1 i2 r0 r1 r2 r3 r4 r5 r6;obtain⟨f0,f1,f2,f3,f4,f5,f6⟩:=hx.f7;clear hI hb2 hib hx HI QX BK
 have HFin:Hqq (∀(V:World) (u:Value),eT E e=u->Mod [w.heap.size] w1 V->∃a:uw,Ending.returned (.agg #[.int .i64 7,.int .i64 0,.int .i64 st,.bool false,nU k,nU v,u])= .returned (rO E a)/\ae8 s i a/\gM W0 E H K M I b G w V s):=
  qd λV u hu hV=>⟨⟨7,0,st,false,k,v,e⟩,by unfold rO;rw[hu],⟨rfl,rfl,rfl,HT.o.1,HT.o.2⟩,HTo.o V hV⟩
 rcases oI E e with hu|⟨A,hu⟩
 all_goals
  have HU:=qd hu;rw[hu];clear hu;go_wp2
  first
   |refine bodyPost_ret (v:= .agg #[.int .i64 7,.int .i64 0,.int .i64 st,.bool false,nU k,nU v,.nilIface]) (by simp[results,Tryz.results44,go_sem,r0,r1,r2,r3,r4,r5,r6]) rfl (HFin.o _ _ HU.o ?_)
   |refine bodyPost_ret (v:= .agg #[.int .i64 7,.int .i64 0,.int .i64 st,.bool false,nU k,nU v,.iface 333 (.pointer (some A))]) (by simp[results,Tryz.results44,go_sem,r0,r1,r2,r3,r4,r5,r6]) rfl (HFin.o _ _ HU.o ?_)
  repeat refine Mod.ak ?_ (.inl (by simp)) _ _
  exact Mod.of_below HB2.o _
