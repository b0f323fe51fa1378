/- Words for memory that the walks of this claim use: slices that read as lists, blocks that are known whole, what lies below a block. No statement of the claim. -/
import Derived.Below
import Derived.Laws.OwnMore
import Derived.Laws.Rows
import Derived.Deep.AppendLies
import Derived.Deep.Draws
import Derived.Maps.AppendAt
import Derived.RegionTactic
import Derived.OwnWalk
import Derived.Lib.Hide
import Derived.Lib.ConvBytes
import Derived.Laws.Bits64
import Derived.Laws.Bits64b
namespace Go.Proofs.YtgkeameopnpinaaGreatDoor
open Go.RowKit Go

theorem gK {k:IntKind}{a b:Int}(h:a=b):Ending.returned (.int k a)= .returned (.int k b):=by rw[h]
theorem vC {a b:Bool}(h:a=b):Ending.returned (.bool a)= .returned (.bool b):=by rw[h]
/-- A slice value of n elements of 'size' cells each that reads as the cells xs, nil and empty let in; what it shows lies below block B. -/
def Reads (w:World)(B size:Nat)(A:Option Addr)(n:Nat)(xs:List Value):Prop:=
  xs.length=n*size∧(0<n→∃b off,A=some ⟨b,off,none⟩∧b<B∧∀j u,xs[j]?=some u→w.cell? ⟨b,off+j,none⟩=some u)

section
variable {w w' : World} {B B' size n : Nat} {A : Option Addr} {xs : List Value}
theorem Reads.none_:Reads w B size A 0 []:=⟨by simp,fun h=>absurd h (by omega)⟩
theorem Reads.keep (h:Reads w B size A n xs)(hk:∀b o,b<B→w'.cell? ⟨b,o,none⟩=w.cell? ⟨b,o,none⟩):Reads w' B size A n xs:=
  ⟨h.1,fun hn=>by
    obtain⟨b,off,e,hb,hc⟩:=h.2 hn
    exact⟨b,off,e,hb,fun j u hu=>(hk _ _ hb).trans (hc j u hu)⟩⟩
theorem Reads.more (h:Reads w B size A n xs)(hB:B≤B'):Reads w B' size A n xs:=
  ⟨h.1,fun hn=>by
    obtain⟨b,off,e,hb,hc⟩:=h.2 hn
    exact⟨b,off,e,by omega,hc⟩⟩
theorem Reads.below (h:Reads w B size A n xs)(hb:Below B w w'):Reads w' B size A n xs:=h.keep fun b o hp=>hb.cell (p:=⟨b,o,none⟩) hp
theorem Reads.drew (h:Reads w B size A n xs):Reads w.drew B size A n xs:=h
theorem Reads.drewN (h:Reads w B size A n xs)(k:Nat):Reads (w.drewN k) B size A n xs:=h
theorem Reads.alloc (h:Reads w B size A n xs)(hB:B≤w.heap.size)(o:Obj):Reads (w.alloc o) B size A n xs:=h.keep fun b off hp=>World.cell?_alloc_lt w o ⟨b,off,none⟩ (Nat.lt_of_lt_of_le hp hB)
theorem Reads.lK {base:Nat}{e:TypeId}{c:Nat}(h:w.ownsRow base e size (.slice A n c) n xs):Reads w w.heap.size size A n xs:=by
  refine⟨h.1,fun hn=> ?_⟩;obtain⟨g,cap,hv,_,hlt⟩:=h.form hn
  have hA:A=some ⟨g,0,none⟩:=by injection hv
  subst hA;refine⟨g,0,rfl,hlt,fun j u hu=> ?_⟩;have:=h.cells (g:=g) rfl j u hu;by_cases h0:j=0
  · subst h0;simpa[Addr.add]using this
  · simpa[Addr.add,h0]using this
end

/-- block g is just the cells cs of element type t, none frozen -/
def aj (w:World)(g:Nat)(t:TypeId)(cs:Array Value):Prop:=w.heap[g]?=some (.cells cs t (0,0))
section
variable {w w' : World} {g : Nat} {t : TypeId} {cs : Array Value}
theorem aj.lt (h:aj w g t cs):g<w.heap.size:=by
  rcases Nat.lt_or_ge g w.heap.size with hlt|hge
  · exact hlt
  · unfold aj at h;rw[Array.getElem?_eq_none hge]at h;cases h
theorem aj.cell (h:aj w g t cs)(i:Nat):w.cell? ⟨g,i,none⟩=cs[i]?:=cell_of_row w g i cs t (0,0) h
theorem aj.frozen (h:aj w g t cs)(i:Nat):w.frozen? ⟨g,i,none⟩=false:=by
  unfold aj at h;simp[World.frozen?,h]
theorem aj.new (w:World)(t:TypeId)(cs:Array Value):aj (w.alloc (.cells cs t)) w.heap.size t cs:=heap_alloc_new w _
theorem aj.drew (h:aj w g t cs):aj w.drew g t cs:=h
theorem aj.drewN (h:aj w g t cs)(n:Nat):aj (w.drewN n) g t cs:=h
theorem aj.alloc (h:aj w g t cs)(o:Obj):aj (w.alloc o) g t cs:=(Below.heap_alloc w o g h.lt).trans h
theorem aj.ak (h:aj w g t cs)(i:Nat)(u:Value):aj (w.setCell ⟨g,i,none⟩ u) g t (cs.setIfInBounds i u):=by
  unfold aj at h⊢;simp[World.setCell,Array.getElem?_modify,h]
theorem aj.far (h:aj w g t cs){p:Addr}(hp:g≠p.block)(u:Value):aj (w.setCell p u) g t cs:=(Below.heap_setCell w p u g hp).trans h
theorem aj.below {B:Nat}(h:aj w g t cs)(hb:Below B w w')(hg:g<B):aj w' g t cs:=(hb.block g hg).trans h
theorem aj.grown {row:Option Nat}(h:aj w g t cs)(hb:w.grownBy w' row)(hg:some g≠row):aj w' g t cs:=(hb.block g h.lt hg).trans h
end


/-- slice type t of elements of type e, each of 'size' cells and 'bytes' bytes -/
def vD (P:Program)(t e:TypeId)(size bytes:Nat):Prop:=
  ∃i z,P.underlying t=some (.slice e)∧P.info? e=some i∧i.zero=some z∧i.size=size∧i.bytes=bytes∧z.cells.size=size∧0<size∧bytes≤4096
theorem Gx {P:Program}{t e:TypeId}{z:Value}{size bytes:Nat}(ht:P.underlying t=some (.slice e))(h:(P.info? e).map (fun i=>(i.zero,i.size,i.bytes))=some (some z,size,bytes))
    (h1:z.cells.size=size) (h2:0<size) (h3:bytes≤4096):vD P t e size bytes:=by
  obtain⟨i,hi,hz0,hz1,hz2⟩:=info_parts h;exact⟨i,z,ht,hi,hz0,hz1,hz2,h1,h2,h3⟩

/-- what an append has done: below 'base' all is as it was; of the old blocks the appended row's alone may have turned; the row lies where it lay, or in a new block -/
structure oG (w0:World)(base:Nat)(v:Value)(w':World)(v':Value):Prop where
  below:Below base w0 w'
  lX:w0.grownBy w' v.ownBlock
  at_:v'.ownBlock=v.ownBlock∨∃g,v'.ownBlock=some g∧w0.heap.size≤g
theorem oG.size {w0 w':World}{base:Nat}{v v':Value}(h:oG w0 base v w' v'):w0.heap.size≤w'.heap.size:=h.lX.size

/-- append of one element, which stands in a block that was laid for it, onto a row of the call's own -/
theorem jM {P:Program}{w0:World}{ops:Array Oper}{rest:List Oper}{o:Oper}{a:Act}{Q:Exit→Act→World→Prop}(hgd:o.guard=none){s x:Operand}{t:TypeId}
    (ho:o.op= .call {callee:= .builtin .append,args:= #[s,x],argTypes:= #[t,t]}) {e:TypeId} {size bytes:Nat} (hT:vD P t e size bytes)
    {base:Nat} {v:Value} {n:Nat} {xs:List Value} (hown:w0.ownsRow base e size v n xs) (hs:a.eval s=v) {cs:Array Value} {t':TypeId} {c:Nat}
    {g:Nat} (hx:a.eval x= .slice (some ⟨g,0,none⟩) 1 c) (hg0:g=w0.heap.size) (hl:cs.size=size) (h1':(cs.toList.all fun u=>u.oneCell')=true)
    (hn:n<33554432) (hbase:base≤w0.heap.size)
    (h:∀v' w',w'.ownsRow base e size v' (n+1) (xs++cs.toList)→oG w0 base v w' v'→wpList P ops Q rest (a.put o.dst v') w'):
    wpList P ops Q (o::rest) a (w0.alloc (.cells cs t')):=by
  obtain⟨i,z,ht,hi,hz,hsize,hby,hzs,hsz,hb⟩:=hT;have h1:∀u∈cs.toList,u.oneCell'=true:=List.all_eq_true.1 h1';subst hg0
  refine wpList_append_own_at (w0.alloc (.cells cs t')) hgd s x t ho base e i z size bytes ht hi hz hsize hby hzs hsz v n xs hs (hown.alloc _) ⟨w0.heap.size,0,none⟩ 1 c cs.toList hx (by simp[hl]) ?_ h1
    (by simp only[maxLen];omega) ?_ (by simp;omega) ?_
  · intro j u hj
    have hadd:(⟨w0.heap.size,0,none⟩:Addr).add j=⟨w0.heap.size,j,none⟩:=by unfold Addr.add;split<;>simp_all
    rw[hadd,(aj.new w0 t' cs).cell];simpa using hj
  · have:(n+1)*bytes≤33554432*4096:=Nat.mul_le_mul (by omega) hb;omega
  · intro v' w' hown' hg _ hat;have hlt:=hown.lt;have hb0:Below base w0 (w0.alloc (.cells cs t')):=(Below.refl _ _).alloc hbase _;refine h v' w' hown' ⟨hb0.grown hg (by simp;omega) (fun k hk=>(hlt k hk).1),⟨hg.os,hg.tape,hg.output,by have:=hg.size;simp at this;omega,fun k hk hne=> ?_⟩, ?_⟩
    · exact(hg.block k (by simp;omega) hne).trans (Below.heap_alloc w0 _ k hk)
    · rcases hat with hat|hat
      · exact .inl hat
      · exact .inr ⟨_,hat,by simp⟩

/-- a row of the call's own stays, whatever other row has grown -/
theorem oG.keep {w0 w':World}{base:Nat}{v v':Value}(h:oG w0 base v w' v'){b e size:Nat}{u:Value}{n:Nat}{xs:List Value}(hu:w0.ownsRow b e size u n xs)
    (hne:u.ownBlock=Option.none∨u.ownBlock≠v.ownBlock):w'.ownsRow b e size u n xs:=hu.kept h.lX hne
theorem bE {w:World}{b e size n:Nat}{v:Value}{xs:List Value}(hv:w.ownsRow b e size v n xs):∃A c,v= .slice A n c:=by
  rcases hv.2 with⟨rfl,rfl⟩|⟨g,cap,cur,rfl,_⟩
  · exact⟨_,_,rfl⟩
  · exact⟨_,_,rfl⟩
theorem own_below {w w1:World}{base B:Nat}{e:TypeId}{size:Nat}{v:Value}{n:Nat}{xs:List Value}(h:w.ownsRow base e size v n xs)(hb:Below B w w1)(hB:w.heap.size≤B):w1.ownsRow base e size v n xs:=by
  have hg:w.grownBy w1 Option.none:=⟨hb.os,hb.tape,hb.output,hb.size,fun k hk _=>hb.block k (by omega)⟩;refine h.kept hg ?_
  cases hv:v.ownBlock with
  |none=>exact .inl rfl
  |some k=>exact .inr (by simp)

end Go.Proofs.YtgkeameopnpinaaGreatDoor

/-! Short names for what is often said: the cells of a block, a row's items. No statement of the claim. -/
namespace Go.Proofs.YtgkeameopnpinaaGreatDoor
open Go.RowKit Go

theorem qJ {p q:Prop}(h:p)(k:q):p∧q:=⟨h,k⟩
theorem qd {p:Prop}(h:p):Hid p:=Lib.hid h
abbrev nI (n:Nat):Value:= .int .i64 (n:Int)
abbrev nU (n:Nat):Value:= .int .u64 (n:Int)
abbrev pQ (b:Nat):Value:= .pointer (some ⟨b,0,none⟩)
theorem dB {p:World→Prop}{w:World}(t:TypeId)(cs:Array Value)(h:∀v,aj v w.heap.size t cs∧Below w.heap.size w v→p v):p (w.alloc (.cells cs t)):=h _ ⟨aj.new w t cs,(Below.refl w.heap.size w).alloc (Nat.le_refl _) (.cells cs t)⟩
theorem gl:(∀(l:List Value) (i:Nat),l.toArray[i]?=l[i]?)∧(∀(a:Value) (l:List Value),(a::l)[0]?=some a)∧(∀(a:Value) (l:List Value) (i:Nat),(a::l)[i+1]?=l[i]?):=⟨fun _ _=>List.getElem?_toArray ..,fun _ _=>List.getElem?_cons_zero,fun _ _ _=>List.getElem?_cons_succ⟩
theorem pt:(∀(a:Act) (i:Tmp) (v:Value),a.put (some i) v={a with tmps:=a.tmps.setIfInBounds i v})∧(∀(a:Act) (v:Value),a.put none v=a)∧(∀(l:List Value) (i:Nat) (v:Value),l.toArray.setIfInBounds i v=(l.set i v).toArray)∧(∀(a b:Value) (l:List Value),(a::l).set 0 b=b::l)∧(∀(a b:Value) (l:List Value) (i:Nat),(a::l).set (i+1) b=a::l.set i b):=⟨fun _ _ _=>rfl,fun _ _=>rfl,fun _ _ _=>List.setIfInBounds_toArray ..,fun _ _ _=>List.set_cons_zero,fun _ _ _ _=>List.set_cons_succ⟩
section
variable {w : World} {g : Nat} {t : TypeId} {a0 a1 a2 a3 a4 a5 a6 a7 a8 a9 yD AL a12 XZ a14 : Value} {l : List Value}
theorem jZ (w:World)(t0:TypeId)(c0:Array Value)(t1:TypeId)(c1:Array Value):∃W,W=((w.alloc (.cells c0 t0)).alloc (.cells c1 t1))∧Below w.heap.size w W∧aj W (w.heap.size) t0 c0∧aj W (w.heap.size+1) t1 c1:=⟨_,rfl,(((Below.refl w.heap.size w).alloc (by simp<;>omega) (.cells c0 t0)).alloc (by simp<;>omega) (.cells c1 t1)),by simpa using((aj.new w t0 c0).alloc (.cells c1 t1)),by simpa using(aj.new (w.alloc (.cells c0 t0)) t1 c1)⟩
theorem qX3 (w:World)(t0:TypeId)(c0:Array Value)(t1:TypeId)(c1:Array Value)(t2:TypeId)(c2:Array Value):∃W,W=(((w.alloc (.cells c0 t0)).alloc (.cells c1 t1)).alloc (.cells c2 t2))∧Below w.heap.size w W∧aj W (w.heap.size) t0 c0∧aj W (w.heap.size+1) t1 c1∧aj W (w.heap.size+1+1) t2 c2:=⟨_,rfl,((((Below.refl w.heap.size w).alloc (by simp<;>omega) (.cells c0 t0)).alloc (by simp<;>omega) (.cells c1 t1)).alloc (by simp<;>omega) (.cells c2 t2)),by simpa using(((aj.new w t0 c0).alloc (.cells c1 t1)).alloc (.cells c2 t2)),by simpa using((aj.new (w.alloc (.cells c0 t0)) t1 c1).alloc (.cells c2 t2)),by simpa using(aj.new ((w.alloc (.cells c0 t0)).alloc (.cells c1 t1)) t2 c2)⟩
theorem qX4 (w:World)(t0:TypeId)(c0:Array Value)(t1:TypeId)(c1:Array Value)(t2:TypeId)(c2:Array Value)(t3:TypeId)(c3:Array Value):∃W,W=((((w.alloc (.cells c0 t0)).alloc (.cells c1 t1)).alloc (.cells c2 t2)).alloc (.cells c3 t3))∧Below w.heap.size w W∧aj W (w.heap.size) t0 c0∧aj W (w.heap.size+1) t1 c1∧aj W (w.heap.size+1+1) t2 c2∧aj W (w.heap.size+1+1+1) t3 c3:=⟨_,rfl,(((((Below.refl w.heap.size w).alloc (by simp<;>omega) (.cells c0 t0)).alloc (by simp<;>omega) (.cells c1 t1)).alloc (by simp<;>omega) (.cells c2 t2)).alloc (by simp<;>omega) (.cells c3 t3)),by simpa using((((aj.new w t0 c0).alloc (.cells c1 t1)).alloc (.cells c2 t2)).alloc (.cells c3 t3)),by simpa using(((aj.new (w.alloc (.cells c0 t0)) t1 c1).alloc (.cells c2 t2)).alloc (.cells c3 t3)),by simpa using((aj.new ((w.alloc (.cells c0 t0)).alloc (.cells c1 t1)) t2 c2).alloc (.cells c3 t3)),by simpa using(aj.new (((w.alloc (.cells c0 t0)).alloc (.cells c1 t1)).alloc (.cells c2 t2)) t3 c3)⟩
theorem qX5 (w:World)(t0:TypeId)(c0:Array Value)(t1:TypeId)(c1:Array Value)(t2:TypeId)(c2:Array Value)(t3:TypeId)(c3:Array Value)(t4:TypeId)(c4:Array Value):∃W,W=(((((w.alloc (.cells c0 t0)).alloc (.cells c1 t1)).alloc (.cells c2 t2)).alloc (.cells c3 t3)).alloc (.cells c4 t4))∧Below w.heap.size w W∧aj W (w.heap.size) t0 c0∧aj W (w.heap.size+1) t1 c1∧aj W (w.heap.size+1+1) t2 c2∧aj W (w.heap.size+1+1+1) t3 c3∧aj W (w.heap.size+1+1+1+1) t4 c4:=⟨_,rfl,((((((Below.refl w.heap.size w).alloc (by simp<;>omega) (.cells c0 t0)).alloc (by simp<;>omega) (.cells c1 t1)).alloc (by simp<;>omega) (.cells c2 t2)).alloc (by simp<;>omega) (.cells c3 t3)).alloc (by simp<;>omega) (.cells c4 t4)),by simpa using(((((aj.new w t0 c0).alloc (.cells c1 t1)).alloc (.cells c2 t2)).alloc (.cells c3 t3)).alloc (.cells c4 t4)),by simpa using((((aj.new (w.alloc (.cells c0 t0)) t1 c1).alloc (.cells c2 t2)).alloc (.cells c3 t3)).alloc (.cells c4 t4)),by simpa using(((aj.new ((w.alloc (.cells c0 t0)).alloc (.cells c1 t1)) t2 c2).alloc (.cells c3 t3)).alloc (.cells c4 t4)),by simpa using((aj.new (((w.alloc (.cells c0 t0)).alloc (.cells c1 t1)).alloc (.cells c2 t2)) t3 c3).alloc (.cells c4 t4)),by simpa using(aj.new ((((w.alloc (.cells c0 t0)).alloc (.cells c1 t1)).alloc (.cells c2 t2)).alloc (.cells c3 t3)) t4 c4)⟩
theorem aj.c2 (h:aj w g t (a0::a1::l).toArray):w.cell? ⟨g,0,none⟩=some a0∧w.cell? ⟨g,1,none⟩=some a1:=⟨h.cell 0,h.cell 1⟩
theorem aj.c3 (h:aj w g t (a0::a1::a2::l).toArray):w.cell? ⟨g,0,none⟩=some a0∧w.cell? ⟨g,1,none⟩=some a1∧w.cell? ⟨g,2,none⟩=some a2:=⟨h.cell 0,h.cell 1,h.cell 2⟩
theorem aj.c4 (h:aj w g t (a0::a1::a2::a3::l).toArray):w.cell? ⟨g,0,none⟩=some a0∧w.cell? ⟨g,1,none⟩=some a1∧w.cell? ⟨g,2,none⟩=some a2∧w.cell? ⟨g,3,none⟩=some a3:=⟨h.cell 0,h.cell 1,h.cell 2,h.cell 3⟩
theorem aj.c5 (h:aj w g t (a0::a1::a2::a3::a4::l).toArray):w.cell? ⟨g,0,none⟩=some a0∧w.cell? ⟨g,1,none⟩=some a1∧w.cell? ⟨g,2,none⟩=some a2∧w.cell? ⟨g,3,none⟩=some a3∧w.cell? ⟨g,4,none⟩=some a4:=⟨h.cell 0,h.cell 1,h.cell 2,h.cell 3,h.cell 4⟩
theorem aj.c6 (h:aj w g t (a0::a1::a2::a3::a4::a5::l).toArray):w.cell? ⟨g,0,none⟩=some a0∧w.cell? ⟨g,1,none⟩=some a1∧w.cell? ⟨g,2,none⟩=some a2∧w.cell? ⟨g,3,none⟩=some a3∧w.cell? ⟨g,4,none⟩=some a4∧w.cell? ⟨g,5,none⟩=some a5:=⟨h.cell 0,h.cell 1,h.cell 2,h.cell 3,h.cell 4,h.cell 5⟩
theorem aj.c7 (h:aj w g t (a0::a1::a2::a3::a4::a5::a6::l).toArray):w.cell? ⟨g,0,none⟩=some a0∧w.cell? ⟨g,1,none⟩=some a1∧w.cell? ⟨g,2,none⟩=some a2∧w.cell? ⟨g,3,none⟩=some a3∧w.cell? ⟨g,4,none⟩=some a4∧w.cell? ⟨g,5,none⟩=some a5∧w.cell? ⟨g,6,none⟩=some a6:=⟨h.cell 0,h.cell 1,h.cell 2,h.cell 3,h.cell 4,h.cell 5,h.cell 6⟩
theorem aj.c8 (h:aj w g t (a0::a1::a2::a3::a4::a5::a6::a7::l).toArray):w.cell? ⟨g,0,none⟩=some a0∧w.cell? ⟨g,1,none⟩=some a1∧w.cell? ⟨g,2,none⟩=some a2∧w.cell? ⟨g,3,none⟩=some a3∧w.cell? ⟨g,4,none⟩=some a4∧w.cell? ⟨g,5,none⟩=some a5∧w.cell? ⟨g,6,none⟩=some a6∧w.cell? ⟨g,7,none⟩=some a7:=⟨h.cell 0,h.cell 1,h.cell 2,h.cell 3,h.cell 4,h.cell 5,h.cell 6,h.cell 7⟩
theorem aj.c9 (h:aj w g t (a0::a1::a2::a3::a4::a5::a6::a7::a8::l).toArray):w.cell? ⟨g,0,none⟩=some a0∧w.cell? ⟨g,1,none⟩=some a1∧w.cell? ⟨g,2,none⟩=some a2∧w.cell? ⟨g,3,none⟩=some a3∧w.cell? ⟨g,4,none⟩=some a4∧w.cell? ⟨g,5,none⟩=some a5∧w.cell? ⟨g,6,none⟩=some a6∧w.cell? ⟨g,7,none⟩=some a7∧w.cell? ⟨g,8,none⟩=some a8:=⟨h.cell 0,h.cell 1,h.cell 2,h.cell 3,h.cell 4,h.cell 5,h.cell 6,h.cell 7,h.cell 8⟩
theorem aj.c11 (h:aj w g t (a0::a1::a2::a3::a4::a5::a6::a7::a8::a9::yD::l).toArray):w.cell? ⟨g,0,none⟩=some a0∧w.cell? ⟨g,1,none⟩=some a1∧w.cell? ⟨g,2,none⟩=some a2∧w.cell? ⟨g,3,none⟩=some a3∧w.cell? ⟨g,4,none⟩=some a4∧w.cell? ⟨g,5,none⟩=some a5∧w.cell? ⟨g,6,none⟩=some a6∧w.cell? ⟨g,7,none⟩=some a7∧w.cell? ⟨g,8,none⟩=some a8∧w.cell? ⟨g,9,none⟩=some a9∧w.cell? ⟨g,10,none⟩=some yD:=⟨h.cell 0,h.cell 1,h.cell 2,h.cell 3,h.cell 4,h.cell 5,h.cell 6,h.cell 7,h.cell 8,h.cell 9,h.cell 10⟩
theorem aj.c12 (h:aj w g t (a0::a1::a2::a3::a4::a5::a6::a7::a8::a9::yD::AL::l).toArray):w.cell? ⟨g,0,none⟩=some a0∧w.cell? ⟨g,1,none⟩=some a1∧w.cell? ⟨g,2,none⟩=some a2∧w.cell? ⟨g,3,none⟩=some a3∧w.cell? ⟨g,4,none⟩=some a4∧w.cell? ⟨g,5,none⟩=some a5∧w.cell? ⟨g,6,none⟩=some a6∧w.cell? ⟨g,7,none⟩=some a7∧w.cell? ⟨g,8,none⟩=some a8∧w.cell? ⟨g,9,none⟩=some a9∧w.cell? ⟨g,10,none⟩=some yD∧w.cell? ⟨g,11,none⟩=some AL:=⟨h.cell 0,h.cell 1,h.cell 2,h.cell 3,h.cell 4,h.cell 5,h.cell 6,h.cell 7,h.cell 8,h.cell 9,h.cell 10,h.cell 11⟩
theorem aj.c13 (h:aj w g t (a0::a1::a2::a3::a4::a5::a6::a7::a8::a9::yD::AL::a12::l).toArray):w.cell? ⟨g,0,none⟩=some a0∧w.cell? ⟨g,1,none⟩=some a1∧w.cell? ⟨g,2,none⟩=some a2∧w.cell? ⟨g,3,none⟩=some a3∧w.cell? ⟨g,4,none⟩=some a4∧w.cell? ⟨g,5,none⟩=some a5∧w.cell? ⟨g,6,none⟩=some a6∧w.cell? ⟨g,7,none⟩=some a7∧w.cell? ⟨g,8,none⟩=some a8∧w.cell? ⟨g,9,none⟩=some a9∧w.cell? ⟨g,10,none⟩=some yD∧w.cell? ⟨g,11,none⟩=some AL∧w.cell? ⟨g,12,none⟩=some a12:=⟨h.cell 0,h.cell 1,h.cell 2,h.cell 3,h.cell 4,h.cell 5,h.cell 6,h.cell 7,h.cell 8,h.cell 9,h.cell 10,h.cell 11,h.cell 12⟩
theorem aj.c14 (h:aj w g t (a0::a1::a2::a3::a4::a5::a6::a7::a8::a9::yD::AL::a12::XZ::l).toArray):w.cell? ⟨g,0,none⟩=some a0∧w.cell? ⟨g,1,none⟩=some a1∧w.cell? ⟨g,2,none⟩=some a2∧w.cell? ⟨g,3,none⟩=some a3∧w.cell? ⟨g,4,none⟩=some a4∧w.cell? ⟨g,5,none⟩=some a5∧w.cell? ⟨g,6,none⟩=some a6∧w.cell? ⟨g,7,none⟩=some a7∧w.cell? ⟨g,8,none⟩=some a8∧w.cell? ⟨g,9,none⟩=some a9∧w.cell? ⟨g,10,none⟩=some yD∧w.cell? ⟨g,11,none⟩=some AL∧w.cell? ⟨g,12,none⟩=some a12∧w.cell? ⟨g,13,none⟩=some XZ:=⟨h.cell 0,h.cell 1,h.cell 2,h.cell 3,h.cell 4,h.cell 5,h.cell 6,h.cell 7,h.cell 8,h.cell 9,h.cell 10,h.cell 11,h.cell 12,h.cell 13⟩
theorem aj.c15 (h:aj w g t (a0::a1::a2::a3::a4::a5::a6::a7::a8::a9::yD::AL::a12::XZ::a14::l).toArray):w.cell? ⟨g,0,none⟩=some a0∧w.cell? ⟨g,1,none⟩=some a1∧w.cell? ⟨g,2,none⟩=some a2∧w.cell? ⟨g,3,none⟩=some a3∧w.cell? ⟨g,4,none⟩=some a4∧w.cell? ⟨g,5,none⟩=some a5∧w.cell? ⟨g,6,none⟩=some a6∧w.cell? ⟨g,7,none⟩=some a7∧w.cell? ⟨g,8,none⟩=some a8∧w.cell? ⟨g,9,none⟩=some a9∧w.cell? ⟨g,10,none⟩=some yD∧w.cell? ⟨g,11,none⟩=some AL∧w.cell? ⟨g,12,none⟩=some a12∧w.cell? ⟨g,13,none⟩=some XZ∧w.cell? ⟨g,14,none⟩=some a14:=⟨h.cell 0,h.cell 1,h.cell 2,h.cell 3,h.cell 4,h.cell 5,h.cell 6,h.cell 7,h.cell 8,h.cell 9,h.cell 10,h.cell 11,h.cell 12,h.cell 13,h.cell 14⟩
variable {cs : Array Value}
theorem aj.f3 (h:aj w g t cs):w.frozen? ⟨g,0,none⟩=false∧w.frozen? ⟨g,1,none⟩=false∧w.frozen? ⟨g,2,none⟩=false:=⟨h.frozen 0,h.frozen 1,h.frozen 2⟩
theorem aj.f4 (h:aj w g t cs):w.frozen? ⟨g,0,none⟩=false∧w.frozen? ⟨g,1,none⟩=false∧w.frozen? ⟨g,2,none⟩=false∧w.frozen? ⟨g,3,none⟩=false:=⟨h.frozen 0,h.frozen 1,h.frozen 2,h.frozen 3⟩
theorem aj.f5 (h:aj w g t cs):w.frozen? ⟨g,0,none⟩=false∧w.frozen? ⟨g,1,none⟩=false∧w.frozen? ⟨g,2,none⟩=false∧w.frozen? ⟨g,3,none⟩=false∧w.frozen? ⟨g,4,none⟩=false:=⟨h.frozen 0,h.frozen 1,h.frozen 2,h.frozen 3,h.frozen 4⟩
theorem aj.f6 (h:aj w g t cs):w.frozen? ⟨g,0,none⟩=false∧w.frozen? ⟨g,1,none⟩=false∧w.frozen? ⟨g,2,none⟩=false∧w.frozen? ⟨g,3,none⟩=false∧w.frozen? ⟨g,4,none⟩=false∧w.frozen? ⟨g,5,none⟩=false:=⟨h.frozen 0,h.frozen 1,h.frozen 2,h.frozen 3,h.frozen 4,h.frozen 5⟩
theorem aj.f7 (h:aj w g t cs):w.frozen? ⟨g,0,none⟩=false∧w.frozen? ⟨g,1,none⟩=false∧w.frozen? ⟨g,2,none⟩=false∧w.frozen? ⟨g,3,none⟩=false∧w.frozen? ⟨g,4,none⟩=false∧w.frozen? ⟨g,5,none⟩=false∧w.frozen? ⟨g,6,none⟩=false:=⟨h.frozen 0,h.frozen 1,h.frozen 2,h.frozen 3,h.frozen 4,h.frozen 5,h.frozen 6⟩
theorem aj.f8 (h:aj w g t cs):w.frozen? ⟨g,0,none⟩=false∧w.frozen? ⟨g,1,none⟩=false∧w.frozen? ⟨g,2,none⟩=false∧w.frozen? ⟨g,3,none⟩=false∧w.frozen? ⟨g,4,none⟩=false∧w.frozen? ⟨g,5,none⟩=false∧w.frozen? ⟨g,6,none⟩=false∧w.frozen? ⟨g,7,none⟩=false:=⟨h.frozen 0,h.frozen 1,h.frozen 2,h.frozen 3,h.frozen 4,h.frozen 5,h.frozen 6,h.frozen 7⟩
theorem aj.f10 (h:aj w g t cs):w.frozen? ⟨g,0,none⟩=false∧w.frozen? ⟨g,1,none⟩=false∧w.frozen? ⟨g,2,none⟩=false∧w.frozen? ⟨g,3,none⟩=false∧w.frozen? ⟨g,4,none⟩=false∧w.frozen? ⟨g,5,none⟩=false∧w.frozen? ⟨g,6,none⟩=false∧w.frozen? ⟨g,7,none⟩=false∧w.frozen? ⟨g,8,none⟩=false∧w.frozen? ⟨g,9,none⟩=false:=⟨h.frozen 0,h.frozen 1,h.frozen 2,h.frozen 3,h.frozen 4,h.frozen 5,h.frozen 6,h.frozen 7,h.frozen 8,h.frozen 9⟩
theorem aj.f12 (h:aj w g t cs):w.frozen? ⟨g,0,none⟩=false∧w.frozen? ⟨g,1,none⟩=false∧w.frozen? ⟨g,2,none⟩=false∧w.frozen? ⟨g,3,none⟩=false∧w.frozen? ⟨g,4,none⟩=false∧w.frozen? ⟨g,5,none⟩=false∧w.frozen? ⟨g,6,none⟩=false∧w.frozen? ⟨g,7,none⟩=false∧w.frozen? ⟨g,8,none⟩=false∧w.frozen? ⟨g,9,none⟩=false∧w.frozen? ⟨g,10,none⟩=false∧w.frozen? ⟨g,11,none⟩=false:=⟨h.frozen 0,h.frozen 1,h.frozen 2,h.frozen 3,h.frozen 4,h.frozen 5,h.frozen 6,h.frozen 7,h.frozen 8,h.frozen 9,h.frozen 10,h.frozen 11⟩
theorem aj.f14 (h:aj w g t cs):w.frozen? ⟨g,0,none⟩=false∧w.frozen? ⟨g,1,none⟩=false∧w.frozen? ⟨g,2,none⟩=false∧w.frozen? ⟨g,3,none⟩=false∧w.frozen? ⟨g,4,none⟩=false∧w.frozen? ⟨g,5,none⟩=false∧w.frozen? ⟨g,6,none⟩=false∧w.frozen? ⟨g,7,none⟩=false∧w.frozen? ⟨g,8,none⟩=false∧w.frozen? ⟨g,9,none⟩=false∧w.frozen? ⟨g,10,none⟩=false∧w.frozen? ⟨g,11,none⟩=false∧w.frozen? ⟨g,12,none⟩=false∧w.frozen? ⟨g,13,none⟩=false:=⟨h.frozen 0,h.frozen 1,h.frozen 2,h.frozen 3,h.frozen 4,h.frozen 5,h.frozen 6,h.frozen 7,h.frozen 8,h.frozen 9,h.frozen 10,h.frozen 11,h.frozen 12,h.frozen 13⟩
theorem aj.f15 (h:aj w g t cs):w.frozen? ⟨g,0,none⟩=false∧w.frozen? ⟨g,1,none⟩=false∧w.frozen? ⟨g,2,none⟩=false∧w.frozen? ⟨g,3,none⟩=false∧w.frozen? ⟨g,4,none⟩=false∧w.frozen? ⟨g,5,none⟩=false∧w.frozen? ⟨g,6,none⟩=false∧w.frozen? ⟨g,7,none⟩=false∧w.frozen? ⟨g,8,none⟩=false∧w.frozen? ⟨g,9,none⟩=false∧w.frozen? ⟨g,10,none⟩=false∧w.frozen? ⟨g,11,none⟩=false∧w.frozen? ⟨g,12,none⟩=false∧w.frozen? ⟨g,13,none⟩=false∧w.frozen? ⟨g,14,none⟩=false:=⟨h.frozen 0,h.frozen 1,h.frozen 2,h.frozen 3,h.frozen 4,h.frozen 5,h.frozen 6,h.frozen 7,h.frozen 8,h.frozen 9,h.frozen 10,h.frozen 11,h.frozen 12,h.frozen 13,h.frozen 14⟩
end
end Go.Proofs.YtgkeameopnpinaaGreatDoor

/-! Words of eight lanes, lane by lane. No program in sight. -/
namespace Go.Proofs.YtgkeameopnpinaaGreatDoor.bY
open Go.RowKit Go
variable {a b : Nat} {l t : List Nat}
def w8:List Nat→Nat
 | []=>0
 |b::t=>b+256*w8 t
def Bytes (l:List Nat):Prop:=∀b∈l,b<256
theorem Bytes.head (h:Bytes (b::t)):b<256:=h b (by simp)
theorem Bytes.tail (h:Bytes (b::t)):Bytes t:=fun x hx=>h x (by simp[hx])
theorem Kw:∀(l:List Nat),Bytes l→w8 l<256^l.length
 | [],_=>by simp[w8]
 |b::t,h=>by
  have h1:=Kw t h.tail;have h2:=h.head;simp only[w8,List.length_cons,Nat.pow_succ];omega
theorem pJ (h:Bytes l)(hl:l.length=8):w8 l<18446744073709551616:=by
 have:=Kw l h;rw[hl]at this;exact this
theorem mG (a x j:Nat)(ha:a<256):(a+256*x).testBit j=if j<8 then a.testBit j else x.testBit (j-8):=by
 have:=Nat.testBit_two_pow_mul_add x (b:=a) (i:=8) (by simpa using ha) j;rw[show 2^8*x+a=a+256*x by omega]at this;exact this
theorem and_cons (x y:Nat)(ha:a<256)(hb:b<256):(a+256*x) &&& (b+256*y)=(a &&& b)+256*(x &&& y):=by
 apply Nat.eq_of_testBit_eq;intro j;have h:a &&& b<256:=Nat.lt_of_le_of_lt Nat.and_le_left ha;rw[Nat.testBit_and,mG _ _ _ ha,mG _ _ _ hb,mG _ _ _ h]
 split<;>rw[Nat.testBit_and]
theorem or_cons (x y:Nat)(ha:a<256)(hb:b<256):(a+256*x)|||(b+256*y)=(a|||b)+256*(x|||y):=by
 apply Nat.eq_of_testBit_eq;intro j
 have h:a|||b<256:=Nat.or_lt_two_pow (n:=8) ha hb
 rw[Nat.testBit_or,mG _ _ _ ha,mG _ _ _ hb,mG _ _ _ h]
 split<;>rw[Nat.testBit_or]
theorem Ve (x y:Nat)(ha:a<256)(hb:b<256):(a+256*x)^^^(b+256*y)=(a^^^b)+256*(x^^^y):=by
 apply Nat.eq_of_testBit_eq;intro j;have h:a^^^b<256:=Nat.xor_lt_two_pow (n:=8) ha hb;rw[Nat.testBit_xor,mG _ _ _ ha,mG _ _ _ hb,mG _ _ _ h]
 split<;>rw[Nat.testBit_xor]
theorem yE:∀(l m:List Nat),l.length=m.length→Bytes l→Bytes m→w8 l &&& w8 m=w8 (List.zipWith (· &&& ·) l m)
 | [],[],_,_,_=>by simp[w8]
 |a::l,b::m,h,hl,hm=>by
  simp only[w8,List.zipWith_cons_cons];rw[and_cons _ _ hl.head hm.head,yE l m (by simpa using h) hl.tail hm.tail]
theorem PW:∀(l m:List Nat),l.length=m.length→Bytes l→Bytes m→w8 l|||w8 m=w8 (List.zipWith (·|||·) l m)
 | [],[],_,_,_=>by simp[w8]
 |a::l,b::m,h,hl,hm=>by
  simp only[w8,List.zipWith_cons_cons];rw[or_cons _ _ hl.head hm.head,PW l m (by simpa using h) hl.tail hm.tail]
theorem RJ:∀(l m:List Nat),l.length=m.length→Bytes l→Bytes m→w8 l^^^w8 m=w8 (List.zipWith (·^^^·) l m)
 | [],[],_,_,_=>by simp[w8]
 |a::l,b::m,h,hl,hm=>by
  simp only[w8,List.zipWith_cons_cons];rw[Ve _ _ hl.head hm.head,RJ l m (by simpa using h) hl.tail hm.tail]
theorem RL:∀(l m:List Nat),l.length=m.length→w8 l+w8 m=w8 (List.zipWith (·+·) l m)
 | [],[],_=>by simp[w8]
 |a::l,b::m,h=>by
  simp only[w8,List.zipWith_cons_cons];rw[←RL l m (by simpa using h)];omega
theorem Ib {f:Nat→Nat→Nat}(hf:∀a b,a<256→b<256→f a b<256):∀{l m:List Nat},Bytes l→Bytes m→Bytes (List.zipWith f l m)
 | [],_,_,_=>by simp[Bytes]
 |_::_,[],_,_=>by simp[Bytes]
 |a::l,b::m,hl,hm=>fun x hx=>by
  rw[List.zipWith_cons_cons,List.mem_cons]at hx;rcases hx with rfl|hx
  ·exact hf _ _ hl.head hm.head
  ·exact Ib hf hl.tail hm.tail x hx
theorem AO {f:Nat→Nat}(hf:∀a,a<256→f a<256)(hl:Bytes l):Bytes (l.map f):=fun x hx=>by
 obtain⟨a,ha,rfl⟩:=List.mem_map.1 hx;exact hf a (hl a ha)
theorem uZ (f:Nat→Nat→Nat)(b:Nat):∀(l:List Nat),List.zipWith f l (List.replicate l.length b)=l.map fun a=>f a b
 | []=>rfl
 |a::t=>by rw[List.length_cons,List.replicate_succ,List.zipWith_cons_cons,uZ f b t];rfl
theorem pK {n:Nat}(h:b<256):Bytes (List.replicate n b):=fun x hx=>by rw[List.mem_replicate]at hx;rw[hx.2];exact h
theorem aal (b:Nat):w8 (List.replicate 8 b)=72340172838076673*b:=by simp[w8,List.replicate];omega
theorem AP:∀(l:List Nat),Bytes l→w8 (l.map fun a=>255-a)=256^l.length-1-w8 l
 | [],_=>by simp[w8]
 |a::t,h=>by
  have h1:=Kw t h.tail;have h2:=h.head;simp only[List.map_cons,w8,List.length_cons,AP t h.tail,Nat.pow_succ];omega
theorem Ic:(9259542123273814144:Nat)=w8 (List.replicate 8 128):=by simp[w8,List.replicate]
theorem KF:(9187201950435737471:Nat)=w8 (List.replicate 8 127):=by simp[w8,List.replicate]
def dY (a:Nat):Nat:=if a<128 then 0 else 128
theorem Y9 (a:Nat)(h:a<256):a &&& 128=dY a:=by
 have:∀a:Fin 256,a.val &&& 128=dY a.val:=by decide+kernel
 exact this ⟨a,h⟩
theorem Za (h:Bytes l)(hl:l.length=8):w8 l &&& 9259542123273814144=w8 (l.map dY):=by
 rw[Ic,←hl,yE l _ (by simp) h (pK (by omega)),uZ];congr 1;exact List.map_congr_left fun a ha=>Y9 a (h a ha)
def ku (b a:Nat):Nat:=if a=b then 128 else 0
theorem RN (x:Nat)(h:x<256):(255-(((x &&& 127)+127)|||x)) &&& 128=if x=0 then 128 else 0:=by
 have:∀a:Fin 256,(255-(((a.val &&& 127)+127)|||a.val)) &&& 128=if a.val=0 then 128 else 0:=by decide+kernel
 exact this ⟨x,h⟩
theorem Vf (h:Bytes l)(hl:l.length=8)(b:Nat)(hb:b<256):
  (18446744073709551615-((((w8 l^^^w8 (List.replicate 8 b)) &&& 9187201950435737471)+9187201950435737471)|||(w8 l^^^w8 (List.replicate 8 b)))) &&& 9259542123273814144=w8 (l.map (ku b)):=by
 have hx:w8 l^^^w8 (List.replicate 8 b)=w8 (l.map fun a=>a^^^b):=by rw[←hl,RJ l _ (by simp) h (pK hb),uZ]
 rw[hx]
 have hB:Bytes (l.map fun a=>a^^^b):=fun x hxm=>by
  obtain⟨a,ha,rfl⟩:=List.mem_map.1 hxm;exact Nat.xor_lt_two_pow (n:=8) (h a ha) hb
 have hlx:(l.map fun a=>a^^^b).length=8:=by simpa using hl
 obtain⟨m,hm⟩:∃m,m=l.map fun a=>a^^^b:=⟨_,rfl⟩;rw[←hm]at hB hlx⊢
 have e1:w8 m &&& 9187201950435737471=w8 (m.map fun a=>a &&& 127):=by rw[KF,←hlx,yE m _ (by simp) hB (pK (by omega)),uZ]
 have hB1:Bytes (m.map fun a=>(a &&& 127)+127):=AO (fun a _=>by have:=Nat.and_le_right (n:=a) (m:=127);omega) hB
 have e2:w8 (m.map fun a=>a &&& 127)+9187201950435737471=w8 (m.map fun a=>(a &&& 127)+127):=by
  rw[KF,show List.replicate 8 127=List.replicate (m.map fun a=>a &&& 127).length 127 by simp[hlx],RL _ _ (by simp),uZ,List.map_map];rfl
 rw[e1,e2,PW _ m (by simp) hB1 hB]
 have e3:List.zipWith (·|||·) (m.map fun a=>(a &&& 127)+127) m=m.map fun a=>((a &&& 127)+127)|||a:=by
  clear hB hlx hm e1 hB1 e2 hx
  induction m with
  |nil=>rfl
  |cons a t ih=>simp[ih]
 rw[e3];have hB2:Bytes (m.map fun a=>((a &&& 127)+127)|||a):=AO (fun a ha=>Nat.or_lt_two_pow (n:=8) (by have:=Nat.and_le_right (n:=a) (m:=127);omega) ha) hB;have e4:=AP _ hB2;rw[List.length_map,hlx,List.map_map]at e4;rw[show(18446744073709551615:Nat)=256^8-1 by decide,←e4]
 have hB3:Bytes (m.map ((fun a=>255-a)∘fun a=>((a &&& 127)+127)|||a)):=fun x hxm=>by
  obtain⟨a,ha,rfl⟩:=List.mem_map.1 hxm;show 255-_<256;omega
 rw[Ic,show List.replicate 8 128=List.replicate (m.map ((fun a=>255-a)∘fun a=>((a &&& 127)+127)|||a)).length 128 by simp[hlx],yE _ _ (by simp) hB3 (pK (by omega)),uZ,List.map_map,hm,List.map_map];congr 1;refine List.map_congr_left fun a ha=> ?_;show(255-((((a^^^b) &&& 127)+127)|||(a^^^b))) &&& 128=ku b a;rw[RN _ (Nat.xor_lt_two_pow (n:=8) (h a ha) hb)];unfold ku;by_cases hab:a=b
 ·subst hab;simp
 ·rw[if_neg hab,if_neg];intro h0;refine hab (Nat.eq_of_testBit_eq fun j=> ?_)
  have h1:(a^^^b).testBit j=false:=by rw[h0];exact Nat.zero_testBit j
  rw[Nat.testBit_xor]at h1;revert h1
  cases a.testBit j<;>cases b.testBit j<;>simp
theorem Ov:∀(l:List Nat) (i:Nat),Bytes l→w8 l/256^i % 256=l.getD i 0
 | [],i,_=>by simp[w8]
 |a::t,0,h=>by have:=h.head;simp[w8];omega
 |a::t,i+1,h=>by
  have:=h.head;have ih:=Ov t i h.tail;rw[List.getD_cons_succ,←ih,w8,Nat.pow_succ,Nat.mul_comm (256^i) 256,←Nat.div_div_eq_div_mul,show(a+256*w8 t)/256=w8 t by omega]
def cB (i:Nat):List Nat→List Nat
 | []=> []
 |b::t=>if b=128 then i::cB (i+1) t else cB (i+1) t
end Go.Proofs.YtgkeameopnpinaaGreatDoor.bY
