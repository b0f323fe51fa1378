/- The plain law of the least and the greatest float of a list. No program in sight. -/
import Derived.Test.YtnfjjbpmhcbelaaGreatDoorFloatO
import Derived.Below
import Derived.Laws.OwnMore
import Derived.Laws.Rows
import Derived.Deep.AppendLies
import Derived.Deep.Draws
import Derived.Maps.AppendAt
import Derived.RegionTactic
import Derived.OwnWalk
import Derived.Lib.Hide
import Derived.Lib.ConvBytes
import Derived.Test.YtnfjjbpmhcbelaaGreatDoorFloatP
import Derived.Laws.FloatArith
import Derived.Test.YtnfjjbpmhcbelaaGreatDoorProg
import Derived.WalkKit
import Derived.WalkSpells
import Derived.WalkLawsBesides
import Derived.Laws.BitsAllLaws
import Derived.KernelRfl
import Derived.Outline
import Derived.Deep.Cut
import Derived.Deep.CutRange
namespace Go.Proofs.YtnfjjbpmhcbelaaGreatDoor.kM
open Ieee Go.RowKit kM ru
variable {a b w x : Nat}
def afe (w:Nat):Nat:=w^^^9223372036854775808
def pick (x y:Nat):Nat:=
 if double.read x== .infinity true||double.read y== .infinity true then double.write (.infinity true)
 else if(double.read x).isNaN||(double.read y).isNaN then 9221120237041090561
 else if(double.read x).isZero && (double.read y).isZero then(if(double.read x).neg==true then x else y)
 else if(double.read x).order (double.read y)==some .lt then x else y
def adv (x least:Nat):Bool:=decide (key x<key least)||(decide (rung x=0) && decide (rung least=0) && jX x)
def adw (x most:Nat):Bool:=decide (key most<key x)||(decide (rung x=0) && decide (rung most=0) && !jX x)
def adP (least:Nat)(l:List Nat):Nat:=l.foldl (fun a x=>if adv x a then x else a) least
def adR (most:Nat)(l:List Nat):Nat:=l.foldl (fun a x=>if adw x a then x else a) most
def words (l:List Nat):Prop:=∀x∈l,x<18446744073709551616
end Go.Proofs.YtnfjjbpmhcbelaaGreatDoor.kM

/-! Floats in their one form, and the keys of the forms: the plain law. No program in sight. -/
namespace Go.Proofs.YtnfjjbpmhcbelaaGreatDoor.kM
open Ieee Go.RowKit kM ru
variable {x : Nat}
def aQ (x:Nat):Nat:=if iQ x then 9221120237041090560 else if rung x=0 then 0 else x
def aA (x:Nat):Nat:=if jX (aQ x)then 18446744073709551615-aQ x else aQ x+9223372036854775808
theorem ko (h:x<18446744073709551616):aQ x<18446744073709551616:=by
 unfold aQ;split
 ·decide
 ·split
  ·decide
  ·exact h
theorem sG (x:Nat):aQ (aQ x)=aQ x:=by
 by_cases h:iQ x=true
 ·have:aQ x=9221120237041090560:=by unfold aQ;rw[if_pos h]
  rw[this];decide
 ·by_cases h0:rung x=0
  ·have:aQ x=0:=by unfold aQ;rw[if_neg h,if_pos h0]
   rw[this];decide
  ·have:aQ x=x:=by unfold aQ;rw[if_neg h,if_neg h0]
   rw[this];exact this
theorem uZ (h:x<18446744073709551616):(jX x=true↔9223372036854775808≤x):=by
 unfold jX;simp only[beq_iff_eq];omega
theorem Em (h:x<18446744073709551616):aA x<18446744073709551616:=by
 have h1:=ko h;have h2:=uZ h1;unfold aA;by_cases hs:jX (aQ x)=true
 ·rw[if_pos hs];omega
 ·rw[if_neg hs];have:=mt h2.2 hs;omega
theorem XH {y:Nat}(hx:x<18446744073709551616)(hy:y<18446744073709551616):aA x=aA y↔aQ x=aQ y:=by
 refine⟨fun h=> ?_,fun h=>by unfold aA;rw[h]⟩;have h1:=ko hx;have h2:=uZ h1;have h3:=ko hy;have h4:=uZ h3;unfold aA at h;by_cases hs:jX (aQ x)=true
 ·rw[if_pos hs]at h;have g1:=h2.1 hs;by_cases ht:jX (aQ y)=true
  ·rw[if_pos ht]at h;have g2:=h4.1 ht;omega
  ·rw[if_neg ht]at h;have g2:=mt h4.2 ht;omega
 ·rw[if_neg hs]at h;have g1:=mt h2.2 hs;by_cases ht:jX (aQ y)=true
  ·rw[if_pos ht]at h;have g2:=h4.1 ht;omega
  ·rw[if_neg ht]at h;omega
theorem XI:key x=0↔rung x=0:=by
 unfold key
 cases jX x<;>simp
end Go.Proofs.YtnfjjbpmhcbelaaGreatDoor.kM

/-! Words for memory that the walks of this claim use: slices that read as lists, blocks that are known whole, what lies below a block. No statement of the claim. -/
namespace Go.Proofs.YtnfjjbpmhcbelaaGreatDoor
open Ieee Go.RowKit kM ru

theorem below_drewN {B:Nat}{a w:World}(h:Below B a w)(n:Nat):Below B a (w.drewN n):=⟨h.os,h.tape,h.output,h.size,h.block⟩

theorem gJ {k:IntKind}{a b:Int}(h:a=b):Ending.returned (.int k a)= .returned (.int k b):=by rw[h]
theorem uz {a b:Bool}(h:a=b):Ending.returned (.bool a)= .returned (.bool b):=by rw[h]
theorem ret_val {a b:Value}(h:a=b):Ending.returned a= .returned b:=by rw[h]

/-- A slice value of n elements of 'size' cells each that reads as the cells xs, nil and empty let in; what it shows lies below block B. -/
def Reads (w:World)(B size:Nat)(A:Option Addr)(n:Nat)(xs:List Value):Prop:=
  xs.length=n*size∧(0<n→∃b off,A=some ⟨b,off,none⟩∧b<B∧∀j u,xs[j]?=some u→w.cell? ⟨b,off+j,none⟩=some u)

section
variable {w w' : World} {B B' size n : Nat} {A : Option Addr} {xs : List Value}
theorem Reads.none_:Reads w B size A 0 []:=⟨by simp,fun h=>absurd h (by omega)⟩
theorem Reads.keep (h:Reads w B size A n xs)(hk:∀b o,b<B→w'.cell? ⟨b,o,none⟩=w.cell? ⟨b,o,none⟩):Reads w' B size A n xs:=
  ⟨h.1,fun hn=>by
    obtain⟨b,off,e,hb,hc⟩:=h.2 hn
    exact⟨b,off,e,hb,fun j u hu=>(hk _ _ hb).trans (hc j u hu)⟩⟩
theorem Reads.more (h:Reads w B size A n xs)(hB:B≤B'):Reads w B' size A n xs:=
  ⟨h.1,fun hn=>by
    obtain⟨b,off,e,hb,hc⟩:=h.2 hn
    exact⟨b,off,e,by omega,hc⟩⟩
theorem Reads.below (h:Reads w B size A n xs)(hb:Below B w w'):Reads w' B size A n xs:=h.keep fun b o hp=>hb.cell (p:=⟨b,o,none⟩) hp
theorem Reads.drew (h:Reads w B size A n xs):Reads w.drew B size A n xs:=h
theorem Reads.drewN (h:Reads w B size A n xs)(k:Nat):Reads (w.drewN k) B size A n xs:=h
theorem Reads.alloc (h:Reads w B size A n xs)(hB:B≤w.heap.size)(o:Obj):Reads (w.alloc o) B size A n xs:=h.keep fun b off hp=>World.cell?_alloc_lt w o ⟨b,off,none⟩ (Nat.lt_of_lt_of_le hp hB)
theorem Reads.fD {base:Nat}{e:TypeId}{c:Nat}(h:w.ownsRow base e size (.slice A n c) n xs):Reads w w.heap.size size A n xs:=by
  refine⟨h.1,fun hn=> ?_⟩;obtain⟨g,cap,hv,_,hlt⟩:=h.form hn
  have hA:A=some ⟨g,0,none⟩:=by injection hv
  subst hA;refine⟨g,0,rfl,hlt,fun j u hu=> ?_⟩;have:=h.cells (g:=g) rfl j u hu;by_cases h0:j=0
  · subst h0;simpa[Addr.add]using this
  · simpa[Addr.add,h0]using this
end

/-- block g is just the cells cs of element type t, none frozen -/
def aj (w:World)(g:Nat)(t:TypeId)(cs:Array Value):Prop:=w.heap[g]?=some (.cells cs t (0,0))
section
variable {w w' : World} {g : Nat} {t : TypeId} {cs : Array Value}
theorem aj.lt (h:aj w g t cs):g<w.heap.size:=by
  rcases Nat.lt_or_ge g w.heap.size with hlt|hge
  · exact hlt
  · unfold aj at h;rw[Array.getElem?_eq_none hge]at h;cases h
theorem aj.cell (h:aj w g t cs)(i:Nat):w.cell? ⟨g,i,none⟩=cs[i]?:=cell_of_row w g i cs t (0,0) h
theorem aj.frozen (h:aj w g t cs)(i:Nat):w.frozen? ⟨g,i,none⟩=false:=by
  unfold aj at h;simp[World.frozen?,h]
theorem aj.new (w:World)(t:TypeId)(cs:Array Value):aj (w.alloc (.cells cs t)) w.heap.size t cs:=heap_alloc_new w _
theorem aj.drew (h:aj w g t cs):aj w.drew g t cs:=h
theorem aj.drewN (h:aj w g t cs)(n:Nat):aj (w.drewN n) g t cs:=h
theorem aj.alloc (h:aj w g t cs)(o:Obj):aj (w.alloc o) g t cs:=(Below.heap_alloc w o g h.lt).trans h
theorem aj.ak (h:aj w g t cs)(i:Nat)(u:Value):aj (w.setCell ⟨g,i,none⟩ u) g t (cs.setIfInBounds i u):=by
  unfold aj at h⊢;simp[World.setCell,Array.getElem?_modify,h]
theorem aj.far (h:aj w g t cs){p:Addr}(hp:g≠p.block)(u:Value):aj (w.setCell p u) g t cs:=(Below.heap_setCell w p u g hp).trans h
theorem aj.below {B:Nat}(h:aj w g t cs)(hb:Below B w w')(hg:g<B):aj w' g t cs:=(hb.block g hg).trans h
theorem aj.grown {row:Option Nat}(h:aj w g t cs)(hb:w.grownBy w' row)(hg:some g≠row):aj w' g t cs:=(hb.block g h.lt hg).trans h
end


/-- slice type t of elements of type e, each of 'size' cells and 'bytes' bytes -/
def sH (P:Program)(t e:TypeId)(size bytes:Nat):Prop:=
  ∃i z,P.underlying t=some (.slice e)∧P.info? e=some i∧i.zero=some z∧i.size=size∧i.bytes=bytes∧z.cells.size=size∧0<size∧bytes≤4096
theorem AP {P:Program}{t e:TypeId}{z:Value}{size bytes:Nat}(ht:P.underlying t=some (.slice e))(h:(P.info? e).map (fun i=>(i.zero,i.size,i.bytes))=some (some z,size,bytes))
    (h1:z.cells.size=size) (h2:0<size) (h3:bytes≤4096):sH P t e size bytes:=by
  obtain⟨i,hi,hz0,hz1,hz2⟩:=info_parts h;exact⟨i,z,ht,hi,hz0,hz1,hz2,h1,h2,h3⟩

/-- what an append has done: below 'base' all is as it was; of the old blocks the appended row's alone may have turned; the row lies where it lay, or in a new block -/
structure nA (w0:World)(base:Nat)(v:Value)(w':World)(v':Value):Prop where
  below:Below base w0 w'
  kr:w0.grownBy w' v.ownBlock
  at_:v'.ownBlock=v.ownBlock∨∃g,v'.ownBlock=some g∧w0.heap.size≤g
theorem nA.size {w0 w':World}{base:Nat}{v v':Value}(h:nA w0 base v w' v'):w0.heap.size≤w'.heap.size:=h.kr.size

/-- append of one element, which stands in a block that was laid for it, onto a row of the call's own -/
theorem iK {P:Program}{w0:World}{ops:Array Oper}{rest:List Oper}{o:Oper}{a:Act}{Q:Exit→Act→World→Prop}(hgd:o.guard=none){s x:Operand}{t:TypeId}
    (ho:o.op= .call {callee:= .builtin .append,args:= #[s,x],argTypes:= #[t,t]}) {e:TypeId} {size bytes:Nat} (hT:sH P t e size bytes)
    {base:Nat} {v:Value} {n:Nat} {xs:List Value} (hown:w0.ownsRow base e size v n xs) (hs:a.eval s=v) {cs:Array Value} {t':TypeId} {c:Nat}
    {g:Nat} (hx:a.eval x= .slice (some ⟨g,0,none⟩) 1 c) (hg0:g=w0.heap.size) (hl:cs.size=size) (h1':(cs.toList.all fun u=>u.oneCell')=true)
    (hn:n<33554432) (hbase:base≤w0.heap.size)
    (h:∀v' w',w'.ownsRow base e size v' (n+1) (xs++cs.toList)→nA w0 base v w' v'→wpList P ops Q rest (a.put o.dst v') w'):
    wpList P ops Q (o::rest) a (w0.alloc (.cells cs t')):=by
  obtain⟨i,z,ht,hi,hz,hsize,hby,hzs,hsz,hb⟩:=hT;have h1:∀u∈cs.toList,u.oneCell'=true:=List.all_eq_true.1 h1';subst hg0
  refine wpList_append_own_at (w0.alloc (.cells cs t')) hgd s x t ho base e i z size bytes ht hi hz hsize hby hzs hsz v n xs hs (hown.alloc _) ⟨w0.heap.size,0,none⟩ 1 c cs.toList hx (by simp[hl]) ?_ h1
    (by simp only[maxLen];omega) ?_ (by simp;omega) ?_
  · intro j u hj
    have hadd:(⟨w0.heap.size,0,none⟩:Addr).add j=⟨w0.heap.size,j,none⟩:=by unfold Addr.add;split<;>simp_all
    rw[hadd,(aj.new w0 t' cs).cell];simpa using hj
  · have:(n+1)*bytes≤33554432*4096:=Nat.mul_le_mul (by omega) hb;omega
  · intro v' w' hown' hg _ hat;have hlt:=hown.lt;have hb0:Below base w0 (w0.alloc (.cells cs t')):=(Below.refl _ _).alloc hbase _;refine h v' w' hown' ⟨hb0.grown hg (by simp;omega) (fun k hk=>(hlt k hk).1),⟨hg.os,hg.tape,hg.output,by have:=hg.size;simp at this;omega,fun k hk hne=> ?_⟩, ?_⟩
    · exact(hg.block k (by simp;omega) hne).trans (Below.heap_alloc w0 _ k hk)
    · rcases hat with hat|hat
      · exact .inl hat
      · exact .inr ⟨_,hat,by simp⟩

/-- a row of the call's own stays, whatever other row has grown -/
theorem nA.keep {w0 w':World}{base:Nat}{v v':Value}(h:nA w0 base v w' v'){b e size:Nat}{u:Value}{n:Nat}{xs:List Value}(hu:w0.ownsRow b e size u n xs)
    (hne:u.ownBlock=Option.none∨u.ownBlock≠v.ownBlock):w'.ownsRow b e size u n xs:=hu.kept h.kr hne
/-- rows of elements of two types are two rows -/
theorem Uq {w:World}{b b' e e' size size' n n':Nat}{u v:Value}{xs ys:List Value}(hu:w.ownsRow b e size u n xs)(hv:w.ownsRow b' e' size' v n' ys)(hne:e≠e'):
    u.ownBlock=Option.none∨u.ownBlock≠v.ownBlock:=by
  rcases hu.2 with⟨rfl,_⟩|⟨g,cap,cur,rfl,_,hh,_⟩
  · exact .inl rfl
  · refine .inr ?_;rcases hv.2 with⟨rfl,_⟩|⟨g',cap',cur',rfl,_,hh',_⟩
    · simp[Value.ownBlock]
    · intro hE
      have:g=g':=by simpa[Value.ownBlock]using hE
      subst this;rw[hh]at hh'
      injection hh' with hh'
      injection hh' with _ ht
      exact hne ht
theorem bA {w:World}{b e size n:Nat}{v:Value}{xs:List Value}(hv:w.ownsRow b e size v n xs):∃A c,v= .slice A n c:=by
  rcases hv.2 with⟨rfl,rfl⟩|⟨g,cap,cur,rfl,_⟩
  · exact⟨_,_,rfl⟩
  · exact⟨_,_,rfl⟩
theorem own_below {w w1:World}{base B:Nat}{e:TypeId}{size:Nat}{v:Value}{n:Nat}{xs:List Value}(h:w.ownsRow base e size v n xs)(hb:Below B w w1)(hB:w.heap.size≤B):w1.ownsRow base e size v n xs:=by
  have hg:w.grownBy w1 Option.none:=⟨hb.os,hb.tape,hb.output,hb.size,fun k hk _=>hb.block k (by omega)⟩;refine h.kept hg ?_
  cases hv:v.ownBlock with
  |none=>exact .inl rfl
  |some k=>exact .inr (by simp)

end Go.Proofs.YtnfjjbpmhcbelaaGreatDoor

/-! Short names for what is often said: the cells of a block, a row's items. No statement of the claim. -/
namespace Go.Proofs.YtnfjjbpmhcbelaaGreatDoor
open Ieee Go.RowKit kM ru

theorem qJ {p q:Prop}(h:p)(k:q):p∧q:=⟨h,k⟩
theorem qd {p:Prop}(h:p):Hid p:=Lib.hid h
abbrev nI (n:Nat):Value:= .int .i64 (n:Int)
abbrev nU (n:Nat):Value:= .int .u64 (n:Int)
abbrev pQ (b:Nat):Value:= .pointer (some ⟨b,0,none⟩)
theorem dF {p:World→Prop}{w:World}(t:TypeId)(cs:Array Value)(h:∀v,aj v w.heap.size t cs∧Below w.heap.size w v→p v):p (w.alloc (.cells cs t)):=h _ ⟨aj.new w t cs,(Below.refl w.heap.size w).alloc (Nat.le_refl _) (.cells cs t)⟩
theorem gl:(∀(l:List Value) (i:Nat),l.toArray[i]?=l[i]?)∧(∀(a:Value) (l:List Value),(a::l)[0]?=some a)∧(∀(a:Value) (l:List Value) (i:Nat),(a::l)[i+1]?=l[i]?):=⟨fun _ _=>List.getElem?_toArray ..,fun _ _=>List.getElem?_cons_zero,fun _ _ _=>List.getElem?_cons_succ⟩
theorem pt:(∀(a:Act) (i:Tmp) (v:Value),a.put (some i) v={a with tmps:=a.tmps.setIfInBounds i v})∧(∀(a:Act) (v:Value),a.put none v=a)∧(∀(l:List Value) (i:Nat) (v:Value),l.toArray.setIfInBounds i v=(l.set i v).toArray)∧(∀(a b:Value) (l:List Value),(a::l).set 0 b=b::l)∧(∀(a b:Value) (l:List Value) (i:Nat),(a::l).set (i+1) b=a::l.set i b):=⟨fun _ _ _=>rfl,fun _ _=>rfl,fun _ _ _=>List.setIfInBounds_toArray ..,fun _ _ _=>List.set_cons_zero,fun _ _ _ _=>List.set_cons_succ⟩
section
variable {w : World} {g : Nat} {t : TypeId} {a0 a1 a2 a3 a4 a5 a6 a7 a8 a9 zQ Cx a12 a13 a14 : Value} {l : List Value}
theorem kN (w:World)(t0:TypeId)(c0:Array Value)(t1:TypeId)(c1:Array Value):∃W,W=((w.alloc (.cells c0 t0)).alloc (.cells c1 t1))∧Below w.heap.size w W∧aj W (w.heap.size) t0 c0∧aj W (w.heap.size+1) t1 c1:=⟨_,rfl,(((Below.refl w.heap.size w).alloc (by simp<;>omega) (.cells c0 t0)).alloc (by simp<;>omega) (.cells c1 t1)),by simpa using((aj.new w t0 c0).alloc (.cells c1 t1)),by simpa using(aj.new (w.alloc (.cells c0 t0)) t1 c1)⟩
theorem qX3 (w:World)(t0:TypeId)(c0:Array Value)(t1:TypeId)(c1:Array Value)(t2:TypeId)(c2:Array Value):∃W,W=(((w.alloc (.cells c0 t0)).alloc (.cells c1 t1)).alloc (.cells c2 t2))∧Below w.heap.size w W∧aj W (w.heap.size) t0 c0∧aj W (w.heap.size+1) t1 c1∧aj W (w.heap.size+1+1) t2 c2:=⟨_,rfl,((((Below.refl w.heap.size w).alloc (by simp<;>omega) (.cells c0 t0)).alloc (by simp<;>omega) (.cells c1 t1)).alloc (by simp<;>omega) (.cells c2 t2)),by simpa using(((aj.new w t0 c0).alloc (.cells c1 t1)).alloc (.cells c2 t2)),by simpa using((aj.new (w.alloc (.cells c0 t0)) t1 c1).alloc (.cells c2 t2)),by simpa using(aj.new ((w.alloc (.cells c0 t0)).alloc (.cells c1 t1)) t2 c2)⟩
theorem qX4 (w:World)(t0:TypeId)(c0:Array Value)(t1:TypeId)(c1:Array Value)(t2:TypeId)(c2:Array Value)(t3:TypeId)(c3:Array Value):∃W,W=((((w.alloc (.cells c0 t0)).alloc (.cells c1 t1)).alloc (.cells c2 t2)).alloc (.cells c3 t3))∧Below w.heap.size w W∧aj W (w.heap.size) t0 c0∧aj W (w.heap.size+1) t1 c1∧aj W (w.heap.size+1+1) t2 c2∧aj W (w.heap.size+1+1+1) t3 c3:=⟨_,rfl,(((((Below.refl w.heap.size w).alloc (by simp<;>omega) (.cells c0 t0)).alloc (by simp<;>omega) (.cells c1 t1)).alloc (by simp<;>omega) (.cells c2 t2)).alloc (by simp<;>omega) (.cells c3 t3)),by simpa using((((aj.new w t0 c0).alloc (.cells c1 t1)).alloc (.cells c2 t2)).alloc (.cells c3 t3)),by simpa using(((aj.new (w.alloc (.cells c0 t0)) t1 c1).alloc (.cells c2 t2)).alloc (.cells c3 t3)),by simpa using((aj.new ((w.alloc (.cells c0 t0)).alloc (.cells c1 t1)) t2 c2).alloc (.cells c3 t3)),by simpa using(aj.new (((w.alloc (.cells c0 t0)).alloc (.cells c1 t1)).alloc (.cells c2 t2)) t3 c3)⟩
theorem qX5 (w:World)(t0:TypeId)(c0:Array Value)(t1:TypeId)(c1:Array Value)(t2:TypeId)(c2:Array Value)(t3:TypeId)(c3:Array Value)(t4:TypeId)(c4:Array Value):∃W,W=(((((w.alloc (.cells c0 t0)).alloc (.cells c1 t1)).alloc (.cells c2 t2)).alloc (.cells c3 t3)).alloc (.cells c4 t4))∧Below w.heap.size w W∧aj W (w.heap.size) t0 c0∧aj W (w.heap.size+1) t1 c1∧aj W (w.heap.size+1+1) t2 c2∧aj W (w.heap.size+1+1+1) t3 c3∧aj W (w.heap.size+1+1+1+1) t4 c4:=⟨_,rfl,((((((Below.refl w.heap.size w).alloc (by simp<;>omega) (.cells c0 t0)).alloc (by simp<;>omega) (.cells c1 t1)).alloc (by simp<;>omega) (.cells c2 t2)).alloc (by simp<;>omega) (.cells c3 t3)).alloc (by simp<;>omega) (.cells c4 t4)),by simpa using(((((aj.new w t0 c0).alloc (.cells c1 t1)).alloc (.cells c2 t2)).alloc (.cells c3 t3)).alloc (.cells c4 t4)),by simpa using((((aj.new (w.alloc (.cells c0 t0)) t1 c1).alloc (.cells c2 t2)).alloc (.cells c3 t3)).alloc (.cells c4 t4)),by simpa using(((aj.new ((w.alloc (.cells c0 t0)).alloc (.cells c1 t1)) t2 c2).alloc (.cells c3 t3)).alloc (.cells c4 t4)),by simpa using((aj.new (((w.alloc (.cells c0 t0)).alloc (.cells c1 t1)).alloc (.cells c2 t2)) t3 c3).alloc (.cells c4 t4)),by simpa using(aj.new ((((w.alloc (.cells c0 t0)).alloc (.cells c1 t1)).alloc (.cells c2 t2)).alloc (.cells c3 t3)) t4 c4)⟩
theorem aj.c2 (h:aj w g t (a0::a1::l).toArray):w.cell? ⟨g,0,none⟩=some a0∧w.cell? ⟨g,1,none⟩=some a1:=⟨h.cell 0,h.cell 1⟩
theorem aj.c3 (h:aj w g t (a0::a1::a2::l).toArray):w.cell? ⟨g,0,none⟩=some a0∧w.cell? ⟨g,1,none⟩=some a1∧w.cell? ⟨g,2,none⟩=some a2:=⟨h.cell 0,h.cell 1,h.cell 2⟩
theorem aj.c4 (h:aj w g t (a0::a1::a2::a3::l).toArray):w.cell? ⟨g,0,none⟩=some a0∧w.cell? ⟨g,1,none⟩=some a1∧w.cell? ⟨g,2,none⟩=some a2∧w.cell? ⟨g,3,none⟩=some a3:=⟨h.cell 0,h.cell 1,h.cell 2,h.cell 3⟩
theorem aj.c5 (h:aj w g t (a0::a1::a2::a3::a4::l).toArray):w.cell? ⟨g,0,none⟩=some a0∧w.cell? ⟨g,1,none⟩=some a1∧w.cell? ⟨g,2,none⟩=some a2∧w.cell? ⟨g,3,none⟩=some a3∧w.cell? ⟨g,4,none⟩=some a4:=⟨h.cell 0,h.cell 1,h.cell 2,h.cell 3,h.cell 4⟩
theorem aj.c6 (h:aj w g t (a0::a1::a2::a3::a4::a5::l).toArray):w.cell? ⟨g,0,none⟩=some a0∧w.cell? ⟨g,1,none⟩=some a1∧w.cell? ⟨g,2,none⟩=some a2∧w.cell? ⟨g,3,none⟩=some a3∧w.cell? ⟨g,4,none⟩=some a4∧w.cell? ⟨g,5,none⟩=some a5:=⟨h.cell 0,h.cell 1,h.cell 2,h.cell 3,h.cell 4,h.cell 5⟩
theorem aj.c7 (h:aj w g t (a0::a1::a2::a3::a4::a5::a6::l).toArray):w.cell? ⟨g,0,none⟩=some a0∧w.cell? ⟨g,1,none⟩=some a1∧w.cell? ⟨g,2,none⟩=some a2∧w.cell? ⟨g,3,none⟩=some a3∧w.cell? ⟨g,4,none⟩=some a4∧w.cell? ⟨g,5,none⟩=some a5∧w.cell? ⟨g,6,none⟩=some a6:=⟨h.cell 0,h.cell 1,h.cell 2,h.cell 3,h.cell 4,h.cell 5,h.cell 6⟩
theorem aj.c8 (h:aj w g t (a0::a1::a2::a3::a4::a5::a6::a7::l).toArray):w.cell? ⟨g,0,none⟩=some a0∧w.cell? ⟨g,1,none⟩=some a1∧w.cell? ⟨g,2,none⟩=some a2∧w.cell? ⟨g,3,none⟩=some a3∧w.cell? ⟨g,4,none⟩=some a4∧w.cell? ⟨g,5,none⟩=some a5∧w.cell? ⟨g,6,none⟩=some a6∧w.cell? ⟨g,7,none⟩=some a7:=⟨h.cell 0,h.cell 1,h.cell 2,h.cell 3,h.cell 4,h.cell 5,h.cell 6,h.cell 7⟩
theorem aj.c9 (h:aj w g t (a0::a1::a2::a3::a4::a5::a6::a7::a8::l).toArray):w.cell? ⟨g,0,none⟩=some a0∧w.cell? ⟨g,1,none⟩=some a1∧w.cell? ⟨g,2,none⟩=some a2∧w.cell? ⟨g,3,none⟩=some a3∧w.cell? ⟨g,4,none⟩=some a4∧w.cell? ⟨g,5,none⟩=some a5∧w.cell? ⟨g,6,none⟩=some a6∧w.cell? ⟨g,7,none⟩=some a7∧w.cell? ⟨g,8,none⟩=some a8:=⟨h.cell 0,h.cell 1,h.cell 2,h.cell 3,h.cell 4,h.cell 5,h.cell 6,h.cell 7,h.cell 8⟩
theorem aj.c11 (h:aj w g t (a0::a1::a2::a3::a4::a5::a6::a7::a8::a9::zQ::l).toArray):w.cell? ⟨g,0,none⟩=some a0∧w.cell? ⟨g,1,none⟩=some a1∧w.cell? ⟨g,2,none⟩=some a2∧w.cell? ⟨g,3,none⟩=some a3∧w.cell? ⟨g,4,none⟩=some a4∧w.cell? ⟨g,5,none⟩=some a5∧w.cell? ⟨g,6,none⟩=some a6∧w.cell? ⟨g,7,none⟩=some a7∧w.cell? ⟨g,8,none⟩=some a8∧w.cell? ⟨g,9,none⟩=some a9∧w.cell? ⟨g,10,none⟩=some zQ:=⟨h.cell 0,h.cell 1,h.cell 2,h.cell 3,h.cell 4,h.cell 5,h.cell 6,h.cell 7,h.cell 8,h.cell 9,h.cell 10⟩
theorem aj.c12 (h:aj w g t (a0::a1::a2::a3::a4::a5::a6::a7::a8::a9::zQ::Cx::l).toArray):w.cell? ⟨g,0,none⟩=some a0∧w.cell? ⟨g,1,none⟩=some a1∧w.cell? ⟨g,2,none⟩=some a2∧w.cell? ⟨g,3,none⟩=some a3∧w.cell? ⟨g,4,none⟩=some a4∧w.cell? ⟨g,5,none⟩=some a5∧w.cell? ⟨g,6,none⟩=some a6∧w.cell? ⟨g,7,none⟩=some a7∧w.cell? ⟨g,8,none⟩=some a8∧w.cell? ⟨g,9,none⟩=some a9∧w.cell? ⟨g,10,none⟩=some zQ∧w.cell? ⟨g,11,none⟩=some Cx:=⟨h.cell 0,h.cell 1,h.cell 2,h.cell 3,h.cell 4,h.cell 5,h.cell 6,h.cell 7,h.cell 8,h.cell 9,h.cell 10,h.cell 11⟩
theorem aj.c13 (h:aj w g t (a0::a1::a2::a3::a4::a5::a6::a7::a8::a9::zQ::Cx::a12::l).toArray):w.cell? ⟨g,0,none⟩=some a0∧w.cell? ⟨g,1,none⟩=some a1∧w.cell? ⟨g,2,none⟩=some a2∧w.cell? ⟨g,3,none⟩=some a3∧w.cell? ⟨g,4,none⟩=some a4∧w.cell? ⟨g,5,none⟩=some a5∧w.cell? ⟨g,6,none⟩=some a6∧w.cell? ⟨g,7,none⟩=some a7∧w.cell? ⟨g,8,none⟩=some a8∧w.cell? ⟨g,9,none⟩=some a9∧w.cell? ⟨g,10,none⟩=some zQ∧w.cell? ⟨g,11,none⟩=some Cx∧w.cell? ⟨g,12,none⟩=some a12:=⟨h.cell 0,h.cell 1,h.cell 2,h.cell 3,h.cell 4,h.cell 5,h.cell 6,h.cell 7,h.cell 8,h.cell 9,h.cell 10,h.cell 11,h.cell 12⟩
theorem aj.c14 (h:aj w g t (a0::a1::a2::a3::a4::a5::a6::a7::a8::a9::zQ::Cx::a12::a13::l).toArray):w.cell? ⟨g,0,none⟩=some a0∧w.cell? ⟨g,1,none⟩=some a1∧w.cell? ⟨g,2,none⟩=some a2∧w.cell? ⟨g,3,none⟩=some a3∧w.cell? ⟨g,4,none⟩=some a4∧w.cell? ⟨g,5,none⟩=some a5∧w.cell? ⟨g,6,none⟩=some a6∧w.cell? ⟨g,7,none⟩=some a7∧w.cell? ⟨g,8,none⟩=some a8∧w.cell? ⟨g,9,none⟩=some a9∧w.cell? ⟨g,10,none⟩=some zQ∧w.cell? ⟨g,11,none⟩=some Cx∧w.cell? ⟨g,12,none⟩=some a12∧w.cell? ⟨g,13,none⟩=some a13:=⟨h.cell 0,h.cell 1,h.cell 2,h.cell 3,h.cell 4,h.cell 5,h.cell 6,h.cell 7,h.cell 8,h.cell 9,h.cell 10,h.cell 11,h.cell 12,h.cell 13⟩
theorem aj.c15 (h:aj w g t (a0::a1::a2::a3::a4::a5::a6::a7::a8::a9::zQ::Cx::a12::a13::a14::l).toArray):w.cell? ⟨g,0,none⟩=some a0∧w.cell? ⟨g,1,none⟩=some a1∧w.cell? ⟨g,2,none⟩=some a2∧w.cell? ⟨g,3,none⟩=some a3∧w.cell? ⟨g,4,none⟩=some a4∧w.cell? ⟨g,5,none⟩=some a5∧w.cell? ⟨g,6,none⟩=some a6∧w.cell? ⟨g,7,none⟩=some a7∧w.cell? ⟨g,8,none⟩=some a8∧w.cell? ⟨g,9,none⟩=some a9∧w.cell? ⟨g,10,none⟩=some zQ∧w.cell? ⟨g,11,none⟩=some Cx∧w.cell? ⟨g,12,none⟩=some a12∧w.cell? ⟨g,13,none⟩=some a13∧w.cell? ⟨g,14,none⟩=some a14:=⟨h.cell 0,h.cell 1,h.cell 2,h.cell 3,h.cell 4,h.cell 5,h.cell 6,h.cell 7,h.cell 8,h.cell 9,h.cell 10,h.cell 11,h.cell 12,h.cell 13,h.cell 14⟩
variable {cs : Array Value}
theorem aj.f3 (h:aj w g t cs):w.frozen? ⟨g,0,none⟩=false∧w.frozen? ⟨g,1,none⟩=false∧w.frozen? ⟨g,2,none⟩=false:=⟨h.frozen 0,h.frozen 1,h.frozen 2⟩
theorem aj.f4 (h:aj w g t cs):w.frozen? ⟨g,0,none⟩=false∧w.frozen? ⟨g,1,none⟩=false∧w.frozen? ⟨g,2,none⟩=false∧w.frozen? ⟨g,3,none⟩=false:=⟨h.frozen 0,h.frozen 1,h.frozen 2,h.frozen 3⟩
theorem aj.f5 (h:aj w g t cs):w.frozen? ⟨g,0,none⟩=false∧w.frozen? ⟨g,1,none⟩=false∧w.frozen? ⟨g,2,none⟩=false∧w.frozen? ⟨g,3,none⟩=false∧w.frozen? ⟨g,4,none⟩=false:=⟨h.frozen 0,h.frozen 1,h.frozen 2,h.frozen 3,h.frozen 4⟩
theorem aj.f6 (h:aj w g t cs):w.frozen? ⟨g,0,none⟩=false∧w.frozen? ⟨g,1,none⟩=false∧w.frozen? ⟨g,2,none⟩=false∧w.frozen? ⟨g,3,none⟩=false∧w.frozen? ⟨g,4,none⟩=false∧w.frozen? ⟨g,5,none⟩=false:=⟨h.frozen 0,h.frozen 1,h.frozen 2,h.frozen 3,h.frozen 4,h.frozen 5⟩
theorem aj.f7 (h:aj w g t cs):w.frozen? ⟨g,0,none⟩=false∧w.frozen? ⟨g,1,none⟩=false∧w.frozen? ⟨g,2,none⟩=false∧w.frozen? ⟨g,3,none⟩=false∧w.frozen? ⟨g,4,none⟩=false∧w.frozen? ⟨g,5,none⟩=false∧w.frozen? ⟨g,6,none⟩=false:=⟨h.frozen 0,h.frozen 1,h.frozen 2,h.frozen 3,h.frozen 4,h.frozen 5,h.frozen 6⟩
theorem aj.f8 (h:aj w g t cs):w.frozen? ⟨g,0,none⟩=false∧w.frozen? ⟨g,1,none⟩=false∧w.frozen? ⟨g,2,none⟩=false∧w.frozen? ⟨g,3,none⟩=false∧w.frozen? ⟨g,4,none⟩=false∧w.frozen? ⟨g,5,none⟩=false∧w.frozen? ⟨g,6,none⟩=false∧w.frozen? ⟨g,7,none⟩=false:=⟨h.frozen 0,h.frozen 1,h.frozen 2,h.frozen 3,h.frozen 4,h.frozen 5,h.frozen 6,h.frozen 7⟩
theorem aj.f10 (h:aj w g t cs):w.frozen? ⟨g,0,none⟩=false∧w.frozen? ⟨g,1,none⟩=false∧w.frozen? ⟨g,2,none⟩=false∧w.frozen? ⟨g,3,none⟩=false∧w.frozen? ⟨g,4,none⟩=false∧w.frozen? ⟨g,5,none⟩=false∧w.frozen? ⟨g,6,none⟩=false∧w.frozen? ⟨g,7,none⟩=false∧w.frozen? ⟨g,8,none⟩=false∧w.frozen? ⟨g,9,none⟩=false:=⟨h.frozen 0,h.frozen 1,h.frozen 2,h.frozen 3,h.frozen 4,h.frozen 5,h.frozen 6,h.frozen 7,h.frozen 8,h.frozen 9⟩
theorem aj.f12 (h:aj w g t cs):w.frozen? ⟨g,0,none⟩=false∧w.frozen? ⟨g,1,none⟩=false∧w.frozen? ⟨g,2,none⟩=false∧w.frozen? ⟨g,3,none⟩=false∧w.frozen? ⟨g,4,none⟩=false∧w.frozen? ⟨g,5,none⟩=false∧w.frozen? ⟨g,6,none⟩=false∧w.frozen? ⟨g,7,none⟩=false∧w.frozen? ⟨g,8,none⟩=false∧w.frozen? ⟨g,9,none⟩=false∧w.frozen? ⟨g,10,none⟩=false∧w.frozen? ⟨g,11,none⟩=false:=⟨h.frozen 0,h.frozen 1,h.frozen 2,h.frozen 3,h.frozen 4,h.frozen 5,h.frozen 6,h.frozen 7,h.frozen 8,h.frozen 9,h.frozen 10,h.frozen 11⟩
theorem aj.f14 (h:aj w g t cs):w.frozen? ⟨g,0,none⟩=false∧w.frozen? ⟨g,1,none⟩=false∧w.frozen? ⟨g,2,none⟩=false∧w.frozen? ⟨g,3,none⟩=false∧w.frozen? ⟨g,4,none⟩=false∧w.frozen? ⟨g,5,none⟩=false∧w.frozen? ⟨g,6,none⟩=false∧w.frozen? ⟨g,7,none⟩=false∧w.frozen? ⟨g,8,none⟩=false∧w.frozen? ⟨g,9,none⟩=false∧w.frozen? ⟨g,10,none⟩=false∧w.frozen? ⟨g,11,none⟩=false∧w.frozen? ⟨g,12,none⟩=false∧w.frozen? ⟨g,13,none⟩=false:=⟨h.frozen 0,h.frozen 1,h.frozen 2,h.frozen 3,h.frozen 4,h.frozen 5,h.frozen 6,h.frozen 7,h.frozen 8,h.frozen 9,h.frozen 10,h.frozen 11,h.frozen 12,h.frozen 13⟩
theorem aj.f15 (h:aj w g t cs):w.frozen? ⟨g,0,none⟩=false∧w.frozen? ⟨g,1,none⟩=false∧w.frozen? ⟨g,2,none⟩=false∧w.frozen? ⟨g,3,none⟩=false∧w.frozen? ⟨g,4,none⟩=false∧w.frozen? ⟨g,5,none⟩=false∧w.frozen? ⟨g,6,none⟩=false∧w.frozen? ⟨g,7,none⟩=false∧w.frozen? ⟨g,8,none⟩=false∧w.frozen? ⟨g,9,none⟩=false∧w.frozen? ⟨g,10,none⟩=false∧w.frozen? ⟨g,11,none⟩=false∧w.frozen? ⟨g,12,none⟩=false∧w.frozen? ⟨g,13,none⟩=false∧w.frozen? ⟨g,14,none⟩=false:=⟨h.frozen 0,h.frozen 1,h.frozen 2,h.frozen 3,h.frozen 4,h.frozen 5,h.frozen 6,h.frozen 7,h.frozen 8,h.frozen 9,h.frozen 10,h.frozen 11,h.frozen 12,h.frozen 13,h.frozen 14⟩
end
end Go.Proofs.YtnfjjbpmhcbelaaGreatDoor

/-! Sums of floats, or that they are none. No statement of the claim. -/
namespace Go.Proofs.YtnfjjbpmhcbelaaGreatDoor
open Ieee Go.RowKit kM ru
variable {q : Option Nat} {a b r : Nat}
def mD (q:Option Nat)(r:Nat):Prop:=match q with
 |some x=>r=x
 |none=>iQ r=true
theorem XJ (x y t:Nat):iQ (Question.cut (.nanBits .f64 x y) t)=true∧Question.cut (.nanBits .f64 x y) t<18446744073709551616:=by
 have e63:(2:Nat)^63=9223372036854775808:=by decide
 have e52:(2:Nat)^52=4503599627370496:=by decide
 have h1:=Nat.mod_lt (t/2) (show 0<4503599627370496-1 by decide);show decide (9218868437227405312<(t % 2*2^63+9218868437227405312+1+t/2 % (2^52-1)) % 9223372036854775808)=true∧t % 2*2^63+9218868437227405312+1+t/2 % (2^52-1)<_;rw[e63,e52,decide_eq_true_eq];generalize t/2 % (4503599627370496-1)=z at*
 have h2:t % 2=0∨t % 2=1:=by omega
 rcases h2 with h2|h2<;>rw[h2]<;>omega
def jT (q:Option Nat):Nat:=match q with
 |some x=>aQ x
 |none=>9221120237041090560
theorem AQ (h:mD q r):aQ r=jT q:=by
 cases q with
 |some x=>
  have h:r=x:=h;rw[h];rfl
 |none=>
  have h:iQ r=true:=h;unfold aQ jT;rw[if_pos h]
theorem aaO (h:iQ a=true):Ieee.double.add a b=none:=by
 unfold Ieee.Format.add;rw[FR h];rfl
theorem Jf (h:Ieee.double.add a b=some r):r<18446744073709551616:=by
 have e:(2:Nat)^Ieee.double.width=18446744073709551616:=by decide
 have:=Ieee.Format.add_lt Ieee.double h;omega
theorem AR (x y:Nat)(t:TypeId)(W:World):∃r W',(binOp .add t (.float .f64 x) (.float .f64 y)).run Tryz.prog W= .ok (.float .f64 r) W'∧(mD (Ieee.double.add x y) r∧r<18446744073709551616)∧Below W.heap.size W W':=by
 cases h:Ieee.double.add x y with
 |some r=>exact⟨r,W,run_float_arith W .add t .f64 x y r h,⟨rfl,Jf h⟩,Below.refl _ _⟩
 |none=>
  refine⟨Question.cut (.nanBits .f64 x y) (W.tape W.drawn (.nanBits .f64 x y)),W.drew, ?_,XJ _ _ _,(Below.refl _ _).drew⟩;have e:(FloatKind.f64.format.add x y)=none:=h;have hf:(Question.nanBits .f64 x y).forced=false:=rfl;simp[binOp,Op.floatArith,e,hf]
def RV (q:Option Nat)(x:Nat):Option Nat:=q.bind fun s=>Ieee.double.add s x
def ql (l:PL):Option Nat:=l.foldl (fun q p=>RV q p.2) (some 0)
theorem JZ {l:PL}{i:Nat}{p:Nat×Nat}(h:l[i]?=some p):ql (l.take (i+1))=RV (ql (l.take i)) p.2:=by
 unfold ql;rw[List.take_add_one,h,List.foldl_append];rfl
theorem MG {s x:Nat}(h:mD q s)(hr:mD (Ieee.double.add s x) r):mD (RV q x) r:=by
 cases q with
 |some z=>
  have h:s=z:=h;subst h;exact hr
 |none=>
  have h:iQ s=true:=h;rw[aaO h]at hr;exact hr
end Go.Proofs.YtnfjjbpmhcbelaaGreatDoor

/-! The plain law of rounding a float's word by its bits. No program in sight. -/
namespace Go.Proofs.YtnfjjbpmhcbelaaGreatDoor.kM
open Ieee Go.RowKit kM ru
end Go.Proofs.YtnfjjbpmhcbelaaGreatDoor.kM

/-! Small functions of package math by their contracts. -/
namespace Go.Proofs.YtnfjjbpmhcbelaaGreatDoor
open Ieee Go.RowKit kM ru
variable {a b x : Nat}
theorem J2 (a b:Nat):FloatKind.f64.format.order a b=if iQ a||iQ b then none else some (compare (key a) (key b)):=Uo a b
theorem MH (k:Int):compare k k= .eq:=by simp[compare,compareOfLessAndEq]
theorem XK (x:Nat):(FloatKind.f64.format.order x x !=some .eq)=iQ x:=by
 rw[J2,Bool.or_self,MH]
 cases iQ x<;>rfl
theorem cmp_eq (a b:Int):(compare a b== .eq)=decide (a=b):=by
 unfold compare instOrdInt compareOfLessAndEq;by_cases h1:a<b
 ·simp[h1];omega
 ·by_cases h2:a=b
  ·simp[h2]
  ·simp[h1,h2]
theorem abR (ha:iQ a=false)(hb:iQ b=false):(FloatKind.f64.format.order a b==some .eq)=decide (key a=key b):=by
 rw[J2,ha,hb,←cmp_eq];rfl
def aff (s:Bool)(x:Nat):Bool:=(rung x==9218868437227405312) && (jX x==s)
theorem RX (x:Nat)(w:World):Calls Tryz.prog 59 #[.float .f64 x] w fun e w'=>e= .returned (.bool (iQ x))∧w=w':=by
 go_in;go_wp2;go_ret;exact⟨uz (XK x),rfl⟩
theorem Ur (hx:x<18446744073709551616):decide (wrap64 (x:Int)<0)=jX x:=by
 unfold wrap64;unfold jX;by_cases h:x<9223372036854775808
 ·have e:x/9223372036854775808 % 2=0:=by omega
  rw[e];simp;omega
 ·have e:x/9223372036854775808 % 2=1:=by omega
  rw[e];simp;omega
theorem MI (x:Nat)(hx:x<18446744073709551616)(w:World):Calls Tryz.prog 57 #[.float .f64 x] w fun e w'=>e= .returned (.bool (jX x))∧w=w':=by
 have HW:=qd (Ur hx);have he:=@run_callFunc_extern Tryz.prog 8 _ Extern.MathFloatBits.float64bits Tryz.func8 (by kernel_rfl) (by kernel_rfl) (by kernel_rfl) (by kernel_rfl);have hb:=fun(b:Nat) (W:World)=>show(Extern.MathFloatBits.float64bits #[.float .f64 b]).run Tryz.prog W= .ok (nU b) W from rfl;go_in;go_wp2;go_ret;exact⟨uz HW.out,rfl⟩
theorem XL (hx:x<18446744073709551616):bits .andNot .u64 (x:Int) 9223372036854775808=((rung x:Nat):Int):=by
 have:=u64_andNot_nat x 9223372036854775808 hx (by omega)
 have e:x &&& (18446744073709551615-9223372036854775808)=rung x:=by
  rw[show 18446744073709551615-9223372036854775808=2^63-1 by decide,Nat.and_two_pow_sub_one_eq_mod];rfl
 rw[e]at this;exact this
end Go.Proofs.YtnfjjbpmhcbelaaGreatDoor
