/- The plain law of the least and the greatest of a list that may hold NaN. No program in sight. -/
import Derived.Test.YtfbljmcjadfkoaaGreatDoorGaugeA
import Derived.Test.YtfbljmcjadfkoaaGreatDoorGaugeB
import Derived.Test.YtfbljmcjadfkoaaGreatDoorSqT
import Derived.Deep.Cut
import Derived.Deep.CutRange
import Derived.Test.YtfbljmcjadfkoaaGreatDoorSq
import Derived.Lib.ItoaLen
import Derived.Laws.FloatBits
import Derived.Test.YtfbljmcjadfkoaaGreatDoorFloatP
import Derived.Deep.RegionWith
namespace Go.Proofs.YtfbljmcjadfkoaaGreatDoor.AmF
set_option maxRecDepth 100000
set_option maxHeartbeats 4000000
open Go.RowKit AmF AmD Go.Shelf AmC AmL
variable {l t : List Nat} {k least most out r x y : Nat}
structure LeastIs (l:List Nat)(r:Nat):Prop where
 lt:r<18446744073709551616
 nan:l=[]∨l.any nanB=true→nanB r=true
 num:∀x t,l=x::t→l.any nanB=false→r=leastFrom x t
structure MostIs (l:List Nat)(r:Nat):Prop where
 lt:r<18446744073709551616
 nan:l=[]∨l.any nanB=true→nanB r=true
 num:∀x t,l=x::t→l.any nanB=false→r=mostFrom x t
theorem leastFrom_snoc (x:Nat)(l:List Nat)(y:Nat):leastFrom x (l++[y])=if lessB y (leastFrom x l)then y else leastFrom x l:=by unfold leastFrom;rw[List.foldl_append];rfl
theorem mostFrom_snoc (x:Nat)(l:List Nat)(y:Nat):mostFrom x (l++[y])=if moreB y (mostFrom x l)then y else mostFrom x l:=by unfold mostFrom;rw[List.foldl_append];rfl
theorem leastFrom_mem (P:Nat→Prop):∀(l:List Nat) (x:Nat),P x→(∀y∈l,P y)→P (leastFrom x l)
 | [],_,h,_=>h
 |y::t,x,h,hl=>by
  simp only[leastFrom,List.foldl_cons];split
  ·exact leastFrom_mem P t y (hl y (by simp)) (fun z hz=>hl z (List.mem_cons_of_mem _ hz))
  ·exact leastFrom_mem P t x h (fun z hz=>hl z (List.mem_cons_of_mem _ hz))
theorem mostFrom_mem (P:Nat→Prop):∀(l:List Nat) (x:Nat),P x→(∀y∈l,P y)→P (mostFrom x l)
 | [],_,h,_=>h
 |y::t,x,h,hl=>by
  simp only[mostFrom,List.foldl_cons];split
  ·exact mostFrom_mem P t y (hl y (by simp)) (fun z hz=>hl z (List.mem_cons_of_mem _ hz))
  ·exact mostFrom_mem P t x h (fun z hz=>hl z (List.mem_cons_of_mem _ hz))
theorem any_mem (h:l.any nanB=false):∀y∈l,nanB y=false:=by
 intro y hy
 cases hn:nanB y with
 |false=>rfl
 |true=>rw[List.any_eq_true.2 ⟨y,hy,hn⟩]at h;cases h
theorem take_next (h:l[k]?=some y):l.take (k+1)=l.take k++[y]:=by rw[List.take_add_one,h];rfl
structure LeastAt (x:Nat)(t:List Nat)(k out:Nat):Prop where
 eq:leastFrom x (t.take k)=out
 fine:k=0∨(x::t.take k).any nanB=false
theorem LeastAt.lt (h:LeastAt x t k out)(hl:words (x::t)):out<18446744073709551616:=by
 rw[←h.eq];exact leastFrom_mem (·<18446744073709551616) _ _ (hl x (by simp)) (fun y hy=>hl y (List.mem_cons_of_mem _ (List.mem_of_mem_take hy)))
theorem LeastAt.nan (h:LeastAt x t k out):nanB out=true→nanB x=true:=by
 intro hn;rcases h.fine with h0|h0
 ·subst h0;have:=h.eq;simp[leastFrom]at this;rw[this];exact hn
 ·have h1:=any_mem h0
  have:nanB out=false:=by
   rw[←h.eq];exact leastFrom_mem (fun y=>nanB y=false) _ _ (h1 x (by simp)) (fun y hy=>h1 y (List.mem_cons_of_mem _ hy))
  rw[this]at hn;cases hn
theorem LeastAt.bad (h:LeastAt x t k out)(hy:t[k]?=some y)(hb:nanB y=true∨nanB out=true)(hr:r<18446744073709551616)(hn:nanB r=true):LeastIs (x::t) r:=by
 refine⟨hr,fun _=>hn,fun x' t' he ha=> ?_⟩
 injection he with e1 e2
 subst e1;subst e2;exfalso;have h1:=any_mem ha;rcases hb with hb|hb
 ·rw[h1 y (List.mem_cons_of_mem _ (List.mem_of_getElem? hy))]at hb;cases hb
 ·exact Bool.noConfusion ((h.nan hb).symm.trans (h1 x (by simp)))
theorem LeastAt.next (h:LeastAt x t k out)(hl:words (x::t))(hy:t[k]?=some y)(ny:nanB y=false)(no:nanB out=false):LeastAt x t (k+1) (pick out y):=by
 have hyw:=hl y (List.mem_cons_of_mem _ (List.mem_of_getElem? hy));refine⟨?_,.inr ?_⟩
 ·rw[take_next hy,leastFrom_snoc,h.eq,pick_less hyw (h.lt hl) ny no]
 ·rw[take_next hy]
  have hx:(x::t.take k).any nanB=false:=by
   rcases h.fine with h0|h0
   ·subst h0;have:=h.eq;simp[leastFrom]at this;subst this;simp[no]
   ·exact h0
  rw[←List.cons_append,List.any_append,hx];simp[ny]
theorem LeastAt.done (h:LeastAt x t t.length out)(hl:words (x::t)):LeastIs (x::t) out:=by
 have he:=h.eq;rw[List.take_length]at he;refine⟨h.lt hl,fun hn=> ?_,fun x' t' he' ha=> ?_⟩
 ·rcases hn with hn|hn
  ·cases hn
  ·rcases h.fine with h0|h0
   ·have ht:=List.length_eq_zero_iff.1 h0;subst ht;simp[leastFrom]at he;subst he;simpa using hn
   ·rw[List.take_length,hn]at h0;cases h0
 ·injection he' with e1 e2
  subst e1;subst e2;exact he.symm
structure LawAt (l:List Nat)(k least most:Nat):Prop where
 zero:k=0→least=9221120237041090561∧most=9221120237041090561
 num:∀x t,l=x::t→0<k→(l.take k).any nanB=false∧least=leastFrom x (t.take (k-1))∧most=mostFrom x (t.take (k-1))
def SameF (a b:Nat):Prop:=a=b∨(nanB a=true∧nanB b=true)
theorem LawAt.lt (h:LawAt l k least most)(hl:words l)(hk:k≤l.length):least<18446744073709551616∧most<18446744073709551616:=by
 by_cases h0:k=0
 ·obtain⟨e1,e2⟩:=h.zero h0;omega
 ·cases l with
  |nil=>simp at hk;omega
  |cons x t=>
   obtain⟨_,e1,e2⟩:=h.num x t rfl (by omega);have ht:∀y∈t.take (k-1),y<18446744073709551616:=fun y hy=>hl y (List.mem_cons_of_mem _ (List.mem_of_mem_take hy));exact⟨e1▸leastFrom_mem (·<18446744073709551616) _ _ (hl x (by simp)) ht,e2▸mostFrom_mem (·<18446744073709551616) _ _ (hl x (by simp)) ht⟩
theorem LawAt.first (hy:l[0]?=some y)(ny:nanB y=false):LawAt l 1 y y:=by
 refine⟨fun h=>absurd h (by omega),fun x t he _=> ?_⟩;subst he;simp only[List.getElem?_cons_zero,Option.some.injEq]at hy;subst hy;simp[ny,leastFrom,mostFrom]
theorem LawAt.next (h:LawAt l k least most)(h0:0<k)(hy:l[k]?=some y)(ny:nanB y=false):
  LawAt l (k+1) (if lessB y least then y else least) (if moreB y most then y else most):=by
 refine⟨fun h=>absurd h (by omega),fun x t he _=> ?_⟩;obtain⟨h1,e1,e2⟩:=h.num x t he h0;rw[take_next hy,List.any_append,h1];subst he;obtain⟨k,rfl⟩:∃j,k=j+1:=⟨k-1,by omega⟩;rw[List.getElem?_cons_succ]at hy;simp only[Nat.add_sub_cancel]at e1 e2⊢;rw[take_next hy,leastFrom_snoc,mostFrom_snoc,←e1,←e2];simp[ny]
theorem LawAt.nan (hy:l[k]?=some y)(ny:nanB y=true)(h:LeastIs l r):SameF r y:=
 .inr ⟨h.nan (.inr (List.any_eq_true.2 ⟨y,List.mem_of_getElem? hy,ny⟩)),ny⟩
theorem LawAt.done (h:LawAt l l.length least most)(hr:LeastIs l r):SameF r least:=by
 cases l with
 |nil=>
  obtain⟨e1,_⟩:=h.zero rfl;exact .inr ⟨hr.nan (.inl rfl),by rw[e1];decide⟩
 |cons x t=>
  obtain⟨h1,e1,_⟩:=h.num x t rfl (by simp);rw[List.take_length]at h1;left;rw[hr.num x t rfl h1,e1];simp
end Go.Proofs.YtfbljmcjadfkoaaGreatDoor.AmF

/-! gauge.Least, gauge.Worst, gauge.Ratio, amblerlaw35.exact and the chapter's example by their contracts. -/
namespace Go.Proofs.YtfbljmcjadfkoaaGreatDoor
set_option maxRecDepth 100000
set_option maxHeartbeats 4000000
open Go.RowKit AmF AmD Go.Shelf AmC AmL
variable {w : World} {A : Option Addr} {k n : Nat} {l : List Nat}
def fV (x:Nat):Value:= .float .f64 x
end Go.Proofs.YtfbljmcjadfkoaaGreatDoor

/-! gauge.Ratio and the chapter's example by their contracts; the walk of GaugeLists. -/
namespace Go.Proofs.YtfbljmcjadfkoaaGreatDoor
set_option maxRecDepth 100000
set_option maxHeartbeats 4000000
open Go.RowKit AmF AmD Go.Shelf AmC AmL
variable {m y : Nat}
def SaysTrue (w:World)(e:Ending)(w':World):Prop:=e= .returned (.bool true)∧Below w.heap.size w w'
theorem gauge_Text (x:Nat)(hx:x<18446744073709551616)(w:World)(hT:Lib.TabIs Tryz.prog w "internal/strconv.uint64pow10" .u64 Lib.pow10Tab):
  Calls Tryz.prog 18 #[.float .f64 x] w fun e w'=>e= .returned (strV (textF x))∧Below w.heap.size w w':=by
 by_cases h:nanB x=true∨infS false x=true∨infS true x=true∨4786511204640096256≤rung x
 ·exact(gauge_Text_odd x hx w h).mono fun e w' ⟨he,hw⟩=>⟨he,hw▸Below.refl _ _⟩
 ·simp only[not_or,Bool.not_eq_true,Nat.not_le]at h;exact gauge_Text_plain x hx w hT h.1 h.2.1 h.2.2.1 h.2.2.2
theorem run_int_float (n:Int)(W:World):(convert 3 56 (.int .i64 n)).run Tryz.prog W= .ok (.float .f64 (floatOfInt .f64 n)) W:=
 run_convert_int_float W 3 56 .i64 .f64 n (by rw[Tryz.underlying3];rfl) Tryz.underlying56
end Go.Proofs.YtfbljmcjadfkoaaGreatDoor

/-! gauge.Ratio, gauge.Clamp, and the reference's amount and text of a float, by their contracts. -/
namespace Go.Proofs.YtfbljmcjadfkoaaGreatDoor
set_option maxRecDepth 100000
set_option maxHeartbeats 4000000
open Go.RowKit AmF AmD Go.Shelf AmC AmL
def QuoIs (q:Option Nat)(r:Nat):Prop:=match q with|some x=>r=x|none=>nanB r=true
theorem nan_cut (x y t:Nat):nanB (Question.cut (.nanBits .f64 x y) t)=true:=by
 have e63:(2:Nat)^63=9223372036854775808:=by decide
 have e52:(2:Nat)^52=4503599627370496:=by decide
 have h1:=Nat.mod_lt (t/2) (show 0<4503599627370496-1 by decide);show decide (9218868437227405312<(t % 2*2^63+9218868437227405312+1+t/2 % (2^52-1)) % 9223372036854775808)=true;rw[e63,e52,decide_eq_true_eq];generalize t/2 % (4503599627370496-1)=z at*
 have h2:t % 2=0∨t % 2=1:=by omega
 rcases h2 with h2|h2<;>rw[h2]<;>omega
def one64:Nat:=4607182418800017408
def clampG (f:Nat):Nat:=if nanB f then f else if key f≤0 then 0 else pick f 4607182418800017408
def clampL (f:Nat)(b1 b2:Bool):Nat:=if b2 then 4607182418800017408 else if b1 then 0 else f
def le0 (f:Nat):Bool:=FloatKind.f64.format.order f 0==some .lt||FloatKind.f64.format.order f 0==some .eq
def gt1 (f:Nat):Bool:=FloatKind.f64.format.order f 4607182418800017408==some .gt
end Go.Proofs.YtfbljmcjadfkoaaGreatDoor

/-! amblernum.Figures of any number; floats' bounds. No statement of the claim. -/
namespace Go.Proofs.YtfbljmcjadfkoaaGreatDoor
set_option maxRecDepth 100000
set_option maxHeartbeats 4000000
open Go.RowKit AmF AmD Go.Shelf AmC AmL
variable {r u : Nat}
theorem float_lt (n:Int):floatOfInt .f64 n<18446744073709551616:=by
 have e:(2:Nat)^FloatKind.f64.format.width=18446744073709551616:=by decide
 have h:floatOfInt .f64 n<2^FloatKind.f64.format.width:=by
  unfold floatOfInt FloatKind.nearest;exact Ieee.Format.nearest_lt _ _ _ _
 omega
theorem quo_lt {a b:Nat}(h:Ieee.double.div a b=some r):r<18446744073709551616:=by
 have e:(2:Nat)^Ieee.double.width=18446744073709551616:=by decide
 have:=Ieee.Format.div_lt Ieee.double h;omega
theorem cut_lt (x y t:Nat):Question.cut (.nanBits .f64 x y) t<18446744073709551616:=by
 have e63:(2:Nat)^63=9223372036854775808:=by decide
 have e52:(2:Nat)^52=4503599627370496:=by decide
 have h1:=Nat.mod_lt (t/2) (show 0<4503599627370496-1 by decide);show t % 2*2^63+9218868437227405312+1+t/2 % (2^52-1)<_;rw[e63,e52];generalize t/2 % (4503599627370496-1)=z at*
 have h2:t % 2=0∨t % 2=1:=by omega
 rcases h2 with h2|h2<;>rw[h2]<;>omega
theorem run_quoB (x y:Nat)(t:TypeId)(W:World):∃r W',(binOp .quo t (.float .f64 x) (.float .f64 y)).run Tryz.prog W= .ok (.float .f64 r) W'∧(QuoIs (Ieee.double.div x y) r∧r<18446744073709551616)∧Below W.heap.size W W':=by
 cases h:Ieee.double.div x y with
 |some r=>exact⟨r,W,run_float_arith W .quo t .f64 x y r h,⟨rfl,quo_lt h⟩,Below.refl _ _⟩
 |none=>
  refine⟨Question.cut (.nanBits .f64 x y) (W.tape W.drawn (.nanBits .f64 x y)),W.drew, ?_,⟨nan_cut _ _ _,cut_lt _ _ _⟩,(Below.refl _ _).drew⟩;have e:(FloatKind.f64.format.div x y)=none:=h;have hf:(Question.nanBits .f64 x y).forced=false:=rfl;simp[binOp,Op.floatArith,e,hf]
def textQ (q:Option Nat):List UInt8:=match q with|some x=>textF x|none=> [110,97,110]
theorem textQ_of {q:Option Nat}(h:QuoIs q r):textF r=textQ q:=by
 cases q with
 |some x=>
  have h:r=x:=h;rw[h];rfl
 |none=>
  have h:nanB r=true:=h;unfold textF;rw[h];rfl
theorem textF_len (x:Nat):(textF x).length≤40:=by
 unfold textF;split
 ·simp
 ·split
  ·simp
  ·split
   ·simp
   ·split
    ·simp
    ·rename_i h;have h1:=(times_low (a:=rung x) (by omega)).2;have h2:=rounded_le h1
     have h3:=digits_length 19 (rounded (times (rung x))/1000) (by
      have e:(10:Nat)^(19+1)=100000000000000000000:=by decide
      rw[e]
      omega)
     unfold milli;rw[List.length_append,List.length_append,List.length_cons,tail3_length];unfold sgnT
     split<;>simp<;>omega
theorem textQ_len (q:Option Nat):(textQ q).length≤40:=by
 cases q with
 |some x=>exact textF_len x
 |none=>decide
def rest10 (u:Nat):List UInt8:=if u=0 then []else digits u
theorem rest10_step (h:0<u):rest10 u=rest10 (u/10)++[dg (u % 10)]:=by
 unfold rest10;rw[if_neg (by omega)];by_cases h9:u<10
 ·rw[if_pos (by omega),digits_small u h9,Nat.mod_eq_of_lt h9];rfl
 ·rw[if_neg (by omega),digits_great u h9]
theorem itoa_minus (h:0<u):Lib.itoa (-(u:Int))=45::rest10 u:=by
 rw[Lib.itoa_neg u (by omega),decDigits_digits];unfold rest10;rw[if_neg (by omega)]
theorem dg_toNat (h:r<10):((dg r).toNat:Int)=48+(r:Int):=by
 have:r=0∨r=1∨r=2∨r=3∨r=4∨r=5∨r=6∨r=7∨r=8∨r=9:=by omega
 rcases this with rfl|rfl|rfl|rfl|rfl|rfl|rfl|rfl|rfl|rfl<;>rfl
theorem num_FiguresAny (n:Int)(h0: -9223372036854775808≤n)(h1:n≤9223372036854775807)(w:World):Calls Tryz.prog 15 #[.int .i64 n] w fun e w'=>e= .returned (strV (Lib.itoa n))∧Below w.heap.size w w':=by
 by_cases hn:n<0
 ·obtain⟨U,rfl⟩:∃U:Nat,n= -(U:Int):=⟨n.natAbs,by omega⟩;rw[itoa_minus (by omega)];have HU:=qd (show U≤9223372036854775808 by omega)
  have hlt: -(U:Int)<0:=by omega
  unfold strV;clear h0 h1 hn;go_in;go_wp2;go_loopw [0,3] (fun v0 v3 wr=>∃(u:Nat) (o:List UInt8),u≤U∧v0= .int .i64 (-(u:Int))∧v3= .string ⟨o.toArray⟩∧o.length+u≤10000000000000000000∧rest10 u++o=rest10 U∧Hid (Below w.heap.size w wr)) (fun v0 _ _=>(-(intOf v0)).toNat)
  case atStart=>exact⟨U,[],Nat.le_refl _,rfl,rfl,by have:=HU.out;simp;omega,by simp,qd (Below.refl _ _)⟩
  case round=>
   obtain⟨u,o,hu,rfl,rfl,hlen,hR,HB⟩:=hrel;by_cases hz:u=0
   ·have hzb:(-(u:Int) !=0)=false:=by rw[hz];rfl
    have hzc:(u:Int)=0:=by omega
    have HE:=qd (show o=rest10 U from by rw[hz]at hR;exact hR)
    have hlo:¬9223372036854775807<1+o.length:=by
     rw[HE.out];unfold rest10;split
     ·simp
     ·have:=digits_length 19 U (by have:=HU.out;omega);omega
    go_wp2;go_ret;exact⟨by rw[HE.out];exact congrArg (fun l:List UInt8=>Ending.returned (Value.string ⟨l.toArray⟩)) (by simp),HB.out⟩
   ·have hz':¬(u:Int)=0:=by omega
    have hzb:(-(u:Int) !=0)=true:=by simp[hz]
    obtain⟨r,hr⟩:∃r,r=dg (u % 10):=⟨_,rfl⟩
    have hv:48+(u:Int) % 10=(r.toNat:Int):=by rw[hr,dg_toNat (Nat.mod_lt _ (by decide))];omega
    have hc:=fun b=>conv_one (wr.alloc (.cells #[.int .u8 (48+(u:Int) % 10)] 5)) b r
    have hcell:(wr.alloc (.cells #[.int .u8 (48+(u:Int) % 10)] 5)).cell? ⟨wr.heap.size,0,none⟩=some (.int .u8 (r.toNat:Int)):=by
     rw[hv];exact(Blk.new wr 5 _).cell 0
    have hcv:=hc _ hcell;have HR:=qd (show rest10 (u/10)++(r::o)=rest10 U from by rw[←hR,rest10_step (u:=u) (by omega),hr];simp);have HB':=qd ((Below.refl _ wr).alloc (Nat.le_refl _) (.cells #[.int .u8 (48+(u:Int) % 10)] 5));have HM:=qd (show u/10<u∧u/10≤U∧(r::o).length+u/10≤10000000000000000000 from⟨by omega,by omega,by rw[List.length_cons];omega⟩)
    have hlo:¬9223372036854775807<1+o.length:=by
     have h2:(rest10 U).length≤20:=by
      unfold rest10;split
      ·simp
      ·exact digits_length 19 U (by have:=HU.out;omega)
     rw[←hR,List.length_append]at h2;omega
    have hul:=HU.out
    have hwq:IntKind.i64.wrap (-((u:Int)/10))= -((u/10:Nat):Int):=by rw[IntKind.wrap_i64];omega
    clear hc hcell hv hr hR hlen hu;go_wp2;go_roundw
    case measure=>simp[intOf];have:=HM.out.1;omega
    exact⟨u/10,r::o,HM.out.2.1,rfl,congrArg Value.string (by apply ByteArray.ext;simp),HM.out.2.2,HR.out,qd (HB.out.trans (HB'.out.mono HB.out.size))⟩
 ·obtain⟨u,rfl⟩:∃u:Nat,n=u:=⟨n.toNat,by omega⟩;rw[Lib.itoa_nonneg,decDigits_digits];refine(num_Figures u (by omega) w).mono ?_;rintro e w' ⟨b,hb,rfl,hbw⟩;unfold Says at hb;exact⟨by rw[←hb,strV_data],hbw⟩
end Go.Proofs.YtfbljmcjadfkoaaGreatDoor

/-! A record's Mean and At by their contracts. No statement of the claim. -/
namespace Go.Proofs.YtfbljmcjadfkoaaGreatDoor
set_option maxRecDepth 100000
set_option maxHeartbeats 4000000
open Go.RowKit AmF AmD Go.Shelf AmC AmL
variable {base n rb : Nat} {F : List Nat} {w : World} {l : PL}
def ceilF (x:Nat):Nat:=FloatKind.f64.encode ((FloatKind.f64.decode x).integral .up)
def isNum (x:Nat):Bool:=match FloatKind.f64.decode x with| .nan _ _=>false|_=>true
def rankX (q n:Nat):Option Int:=
 match Ieee.double.mul q (floatOfInt .f64 (n:Int))with
 |none=>none
 |some x=>if isNum x=true then(FloatKind.f64.decode (ceilF x)).toInt .zero else none
def rankB (q n:Nat):Bool:=match rankX q n with|none=>false|some k=>decide (0≤k∧k≤1000)
theorem rank_half:∀n,n<61→(n==0||rankB 4602678819172646912 n)=true:=by decide+kernel
theorem rank_99:∀n,n<61→(n==0||rankB 4607092346807469998 n)=true:=by decide+kernel
theorem math_Ceil_num (x:Nat)(h:isNum x=true)(w:World):Calls Tryz.prog 78 #[.float .f64 x] w fun e w'=>e= .returned (.float .f64 (ceilF x))∧w=w':=by
 have he:=@run_callFunc_extern Tryz.prog 113 _ (Extern.MathFloor.toIntegral "math.archCeil" .up) Tryz.func113 (by kernel_rfl) (by kernel_rfl) (by kernel_rfl) (by kernel_rfl)
 have hb:∀(W:World),(Extern.MathFloor.toIntegral "math.archCeil" .up #[.float .f64 x]).run Tryz.prog W= .ok (.float .f64 (ceilF x)) W:=by
  intro W;have hc:ceilF x=FloatKind.f64.encode ((FloatKind.f64.decode x).integral .up):=rfl;rw[hc];unfold isNum at h;revert h
  change _→Sem.run Tryz.prog (match FloatKind.f64.decode x with
   | .nan s t => if FloatKind.f64.format.quiet t = t then (pure (Value.float .f64 x) : Sem Value) else (do
     let kept←choose (.extern "math.Floor,Ceil,Trunc,RoundToEven.signallingNaN kept" 2)
     pure (Value.float .f64 (if kept==1 then x else FloatKind.f64.encode (.nan s (FloatKind.f64.format.quiet t)))))
   |d=>(pure (Value.float .f64 (FloatKind.f64.encode (d.integral .up))):Sem Value)) W=_
  cases FloatKind.f64.decode x with
  |nan s t=>intro h;cases h
  |_=>intro h;rfl
 obtain⟨c,hc⟩:∃c,c=ceilF x:=⟨_,rfl⟩;rw[←hc]at hb⊢;clear h hc;go_in;go_wp2;go_ret;exact⟨rfl,rfl⟩
theorem run_ceil {c:Nat}{k:Int}(h:(FloatKind.f64.decode c).toInt .zero=some k)(h0:0≤k)(h1:k≤1000)(W:World):(convert 56 3 (.float .f64 c)).run Tryz.prog W= .ok (.int .i64 k) W:=
 run_convert_float_int W 56 3 .f64 .i64 _ _ (by rw[Tryz.underlying56];rfl) Tryz.underlying3 (by
  unfold floatToIntVal;rw[h];simp only
  rw[if_pos (by rw[show IntKind.i64.min= -9223372036854775808 by decide,show IntKind.i64.max=9223372036854775807 by decide];omega)])
theorem pause_rank (q n:Nat)(k:Int)(hk:rankX q n=some k)(h0:0≤k)(h1:k≤1000)(w:World):Calls Tryz.prog 48 #[.float .f64 q,.int .i64 (n:Int)] w fun e w'=>e= .returned (.int .i64 (min (max k 1) (n:Int)))∧w=w':=by
 unfold rankX at hk
 cases hm:Ieee.double.mul q (floatOfInt .f64 (n:Int))with
 |none=>rw[hm]at hk;cases hk
 |some x=>
  rw[hm]at hk;simp only at hk;split at hk
  ·rename_i hn;have hca:=run_int_float (n:Int);have hop:∀t W,(binOp .mul t (.float .f64 q) (.float .f64 (floatOfInt .f64 (n:Int)))).run Tryz.prog W= .ok (.float .f64 x) W:=fun t W=>run_float_arith W .mul t .f64 q _ x hm;have HC:=qd (fun W=>math_Ceil_num x hn W);obtain⟨c,hc⟩:∃c,c=ceilF x:=⟨_,rfl⟩;rw[←hc]at HC hk;have hcv:=run_ceil hk h0 h1;obtain⟨z,hz⟩:∃z,z=floatOfInt .f64 (n:Int):=⟨_,rfl⟩;rw[←hz]at hca hop;clear hm hk hn hc hz;go_in;go_wp2_with fail;refine(HC.out _).mono ?_;rintro e w1 ⟨rfl,rfl⟩;go_wp2;go_ret;exact⟨rfl,rfl⟩
  ·cases hk
def atW (q:Nat)(l:PL)(n:Nat):Nat:=
 if n=0 then 9221120237041090561 else
 match atP l (min (max ((rankX q n).getD 0) 1) (n:Int))with
 |some m=>floatOfInt .f64 (m:Int)
 |none=>9221120237041090561
def meanQ (l:PL)(n:Nat):Option Nat:=Ieee.double.div (floatOfInt .f64 (sumP l 0:Int)) (floatOfInt .f64 (n:Int))
theorem pa_Mean (h:PaR base w rb F l n)(hl:l.length≤1000)(hp:∀p∈l,p.1≤1099511627776∧p.2≤1000):
  Calls Tryz.prog 19 #[.pointer (some ⟨rb,0,none⟩)] w fun y w'=>∃r,(QuoIs (meanQ l n) r∧r<18446744073709551616)∧y= .returned (.float .f64 r)∧Below w.heap.size w w':=by
 have HS:=qd (fun(W:World) (hb:Below w.heap.size w W)=>pa_Sum (base:=base) (w:=W) (rb:=rb) (F:=F) (n:=n) (l:=l) (by
  obtain⟨v,hB,ho,hF,hb',ha⟩:=h
  exact⟨v,hB.below hb hB.lt,own_below ho hb (Nat.le_refl _),hF,hb',ha⟩) hl hp)
 obtain⟨v,hB,ho,rfl,hb,ha⟩:=h;have c1:=hB.cell 1;simp only[gl]at c1;have HC:=qd hB;unfold meanQ;have hca:=run_int_float (sumP l 0:Int);have hcb:=run_int_float (n:Int);obtain⟨a,haa⟩:∃a,a=floatOfInt .f64 (sumP l 0:Int):=⟨_,rfl⟩;obtain⟨b,hbb⟩:∃b,b=floatOfInt .f64 (n:Int):=⟨_,rfl⟩;rw[←haa]at hca⊢;rw[←hbb]at hcb⊢;obtain⟨rQ,h1⟩:=Classical.skolem.1 (fun(W:World)=>run_quoB a b 56 W);obtain⟨wQ,h2⟩:=Classical.skolem.1 h1;have hop:=fun W=>(h2 W).1;have HQ:=qd (fun W=>(h2 W).2);clear h1 h2 hB ho hp ha hb haa hbb;go_in;go_wp2;go_region_with (go_at_call 17;refine(HS.out _ ?h1).mono ?_;(case h1=>first|exact Below.refl _ _|exact(Below.refl _ _).drew|exact below_drewN (Below.refl _ _) _);rintro y w1 ⟨rfl,hb1⟩;have c1':=cell_in hb1 c1)
 all_goals (go_wp2;go_ret)
 all_goals
  have hb2:Below w.heap.size w w1:=by first|exact(Below.refl w.heap.size w).drew.trans hb1|exact hb1|exact(below_drewN (Below.refl w.heap.size w) _).trans hb1
  exact⟨_,(HQ.out w1).1,rfl,hb2.trans ((HQ.out w1).2.mono hb2.size)⟩
theorem max_half (W:World):(Builtin.max_ #[56,56] 56 #[.float .f64 4602678819172646912,.float .f64 0]).run Tryz.prog W= .ok (.float .f64 4602678819172646912) W:=by kernel_rfl
theorem min_half (W:World):(Builtin.min_ #[56,56] 56 #[.float .f64 4602678819172646912,.float .f64 4607182418800017408]).run Tryz.prog W= .ok (.float .f64 4602678819172646912) W:=by kernel_rfl
theorem max_99 (W:World):(Builtin.max_ #[56,56] 56 #[.float .f64 4607092346807469998,.float .f64 0]).run Tryz.prog W= .ok (.float .f64 4607092346807469998) W:=by kernel_rfl
theorem min_99 (W:World):(Builtin.min_ #[56,56] 56 #[.float .f64 4607092346807469998,.float .f64 4607182418800017408]).run Tryz.prog W= .ok (.float .f64 4607092346807469998) W:=by kernel_rfl
theorem pa_At (h:PaR base w rb F l n)(hl:l.length≤1000)(hn:n≤1000)(hp:∀p∈l,p.2≤1000)(q:Nat)(hq:nanB q=false)(hmx:∀W,(Builtin.max_ #[56,56] 56 #[.float .f64 q,.float .f64 0]).run Tryz.prog W= .ok (.float .f64 q) W)(hmn:∀W,(Builtin.min_ #[56,56] 56 #[.float .f64 q,.float .f64 4607182418800017408]).run Tryz.prog W= .ok (.float .f64 q) W)(hr:n≠0→∃k,rankX q n=some k∧0≤k∧k≤1000):
  Calls Tryz.prog 20 #[.pointer (some ⟨rb,0,none⟩),.float .f64 q] w fun y w'=>y= .returned (.float .f64 (atW q l n))∧Below w.heap.size w w':=by
 obtain⟨v,hB,ho,rfl,hb,ha⟩:=h;obtain⟨A,cc,rfl⟩:=own_form ho;obtain⟨c0,c1⟩:=hB.c2;have HL:=qd (Reads.of_own ho);have HP:=qd hp;have HB:=qd (Below.refl w.heap.size w);have HNn:=qd (fun(W:World)=>math_NaN W);have HIs:=qd (fun(W:World)=>math_IsNaN q W);rw[hq]at HIs;by_cases h0:n=0
 ·subst h0
  have HV:atW q l 0=9221120237041090561:=by unfold atW;rw[if_pos rfl]
  rw[HV];clear hB ho hp ha hb HV hr;go_in;go_wp2_with fail;refine(HNn.out _).mono ?_;rintro y w1 ⟨rfl,rfl⟩;go_wp2;go_ret;exact⟨rfl,Below.refl _ _⟩
 ·obtain⟨k,hk,hk0,hk1⟩:=hr h0
  have h0':¬(n:Int)=0:=by omega
  have h0b:((n:Int)==0)=false:=by simpa using h0'
  have HRk:=qd (fun(W:World)=>pause_rank q n k hk hk0 hk1 W);obtain⟨K,hK⟩:∃K,K=min (max k 1) (n:Int):=⟨_,rfl⟩;have HKb:=qd (show 0≤K∧K≤1000 by omega);rw[←hK]at HRk;obtain⟨V,hV⟩:∃V,V=atW q l n:=⟨_,rfl⟩;have HV:=qd (show V=(match atP (l.drop 0) K with|some m=>floatOfInt .f64 (m:Int)|none=>9221120237041090561)from by rw[hV];unfold atW;rw[if_neg h0,hk,hK];rfl);rw[←hV];clear hB ho hp ha hb hr hk hV hK;go_in;go_wp2_with fail;refine(HIs.out _).mono ?_;rintro y w1 ⟨rfl,rfl⟩;go_wp2_with fail;refine(HRk.out _).mono ?_;rintro y w1 ⟨rfl,rfl⟩;go_wp2;go_loopw [5,31] (fun v5 v31 wr=>∃(i:Nat) (k:Int),i≤l.length∧v31= .int .i64 (i:Int)∧v5= .int .i64 k∧Hid (-2000000≤k-1000*(1000-(i:Int))∧k≤1000)∧Hid (V=(match atP (l.drop i) k with|some m=>floatOfInt .f64 (m:Int)|none=>9221120237041090561))∧Hid (Below w.heap.size w wr)) (fun _ v31 _=>l.length-(intOf v31).toNat)
  case atStart=>exact⟨0,K,by omega,rfl,rfl,qd (by have:=HKb.out;omega),HV,HB⟩
  case round=>
   clear HB HV HKb;obtain⟨i,k,hi,rfl,rfl,HKb,HV,HB⟩:=hrel;by_cases hlt:i<l.length
   ·have hlt':(i:Int)<(l.length:Int):=by omega
    have hi0:(0:Int)≤(i:Int):=by omega
    have hwi:IntKind.i64.wrap ((i:Int)+1)=((i+1:Nat):Int):=by rw[IntKind.wrap_i64];omega
    obtain⟨p,hpi⟩:∃p,l[i]?=some p:=⟨_,List.getElem?_eq_getElem hlt⟩;have hpb:=HP.out p (List.mem_of_getElem? hpi);obtain⟨g,off,hA,hgl,hc⟩:=HL.out.2 (by omega);have r0:wr.cell? ⟨g,off+i*2,none⟩=some (.int .i64 (p.1:Int)):=cell_in HB.out (hc (i*2+0) _ (rowC_at hpi (by omega)));have r1:wr.cell? ⟨g,off+i*2+1,none⟩=some (.int .i64 (p.2:Int)):=cell_in HB.out (hc (i*2+1) _ (rowC_at hpi (by omega)))
    have hdr:l.drop i=p::l.drop (i+1):=by
     rw[List.drop_eq_getElem_cons hlt];congr 1;rw[List.getElem?_eq_getElem hlt]at hpi;exact Option.some.inj hpi
    have HD:=qd (show V=(match (if k-(p.2:Int)≤0 then some p.1 else atP (l.drop (i+1)) (k-(p.2:Int)))with|some m=>floatOfInt .f64 (m:Int)|none=>9221120237041090561)from by rw[HV.out,hdr];rfl);have hkw:=HKb.out;obtain⟨k',hk'⟩:∃k',k'=k-(p.2:Int):=⟨_,rfl⟩
    have hwk:IntKind.i64.wrap (k-(p.2:Int))=k':=by rw[IntKind.wrap_i64];omega
    have HKc:=qd (show-2000000≤k'-1000*(1000-((i+1:Nat):Int))∧k'≤1000 by omega);rw[←hk']at HD;have HM:=qd (show l.length-(i+1)<l.length-i by omega);subst hA;clear hc hpi hdr hkw hk' HV HKb;go_upto_region 7 with fail;refine nameW (F:=fun v=>Blk v wr.heap.size 87 #[.int .i64 (p.1:Int),.int .i64 (p.2:Int)]∧Below wr.heap.size wr v) ⟨Blk.new wr 87 #[.int .i64 (p.1:Int),.int .i64 (p.2:Int)],(Below.refl wr.heap.size wr).alloc (Nat.le_refl _) _⟩ ?_;rintro w6 ⟨hB6,hb6⟩;have HB6:=qd (HB.out.trans (hb6.mono HB.out.size));obtain⟨bx,hbx⟩:∃bx,bx=wr.heap.size:=⟨_,rfl⟩;rw[←hbx]at hB6⊢;obtain⟨x0,x1⟩:=hB6.c2;clear hB6 hb6 hbx HB r0 r1;by_cases hle:k'≤0
    ·have HE:=qd (show V=floatOfInt .f64 (p.1:Int)from by rw[HD.out,if_pos hle]);have hcv:=run_int_float (p.1:Int);go_wp2;go_ret;exact⟨by rw[HE.out];rfl,HB6.out⟩
    ·have HE:=qd (show V=(match atP (l.drop (i+1)) k' with|some m=>floatOfInt .f64 (m:Int)|none=>9221120237041090561)from by rw[HD.out,if_neg hle]);go_wp2;go_roundw
     case measure=>simp[intOf];exact HM.out
     exact⟨i+1,k',by omega,rfl,rfl,HKc,HE,HB6⟩
   ·obtain rfl:i=l.length:=by omega
    have hlt':¬(l.length:Int)<(l.length:Int):=by omega
    have HE:=qd (show V=9221120237041090561 from by rw[HV.out,List.drop_length];rfl);go_wp2_with fail;refine(HNn.out _).mono ?_;rintro y w2 ⟨rfl,rfl⟩;go_wp2;go_ret;exact⟨by rw[HE.out];rfl,HB.out⟩
end Go.Proofs.YtfbljmcjadfkoaaGreatDoor
