/- Words for memory that the walks of this claim use: slices that read as lists, blocks that are known whole, what lies below a block. No statement of the claim. -/
import Derived.Below
import Derived.Laws.OwnMore
import Derived.Laws.Rows
import Derived.Deep.AppendLies
import Derived.Deep.Draws
import Derived.Maps.AppendAt
import Derived.RegionTactic
import Derived.OwnWalk
import Derived.Lib.Hide
import Derived.Lib.ConvBytes
import Derived.Laws.Bits64
import Derived.Laws.Bits64b
namespace Go.Proofs.YtkddpchpcepjgaaGreatDoor
open Go.RowKit Go
theorem zb:type_of% @Nat.le_refl:=@Nat.le_refl
theorem zc:type_of% @List.getElem?_cons_zero:=@List.getElem?_cons_zero
theorem zr:type_of% @List.getElem?_toArray:=@List.getElem?_toArray
theorem zt:type_of% @List.mem_cons:=@List.mem_cons
theorem ZS:type_of% @List.length_cons:=@List.length_cons
theorem Z3:type_of% @List.mem_map:=@List.mem_map
theorem qS:type_of% @List.length_map:=@List.length_map
theorem Q2:type_of% @List.getElem?_cons_succ:=@List.getElem?_cons_succ
theorem ye:type_of% @List.map_cons:=@List.map_cons
theorem yp:type_of% @Nat.lt_of_lt_of_le:=@Nat.lt_of_lt_of_le
theorem yW:type_of% @List.setIfInBounds_toArray:=@List.setIfInBounds_toArray
theorem js:type_of% @List.map_map:=@List.map_map
theorem jx:type_of% @List.map_congr_left:=@List.map_congr_left
theorem j8:type_of% @List.set_cons_succ:=@List.set_cons_succ
theorem xd:type_of% @Nat.pow_succ:=@Nat.pow_succ
theorem xz:type_of% @List.zipWith_cons_cons:=@List.zipWith_cons_cons
theorem XX:type_of% @List.set_cons_zero:=@List.set_cons_zero
theorem X2:type_of% @Array.getElem?_eq_none:=@Array.getElem?_eq_none
theorem kw:type_of% @Nat.div_div_eq_div_mul:=@Nat.div_div_eq_div_mul
theorem kz:type_of% @List.all_eq_true:=@List.all_eq_true
theorem Kd:type_of% @Nat.lt_or_ge:=@Nat.lt_or_ge
theorem vd:type_of% @List.mem_replicate:=@List.mem_replicate
theorem vp:type_of% @Nat.mul_le_mul:=@Nat.mul_le_mul
theorem vr:type_of% @Nat.mul_comm:=@Nat.mul_comm

theorem afz {W w1:World}(hb:Below W.heap.size W w1):(∀b o,b<W.heap.size->w1.cell? ⟨b,o,none⟩=W.cell? ⟨b,o,none⟩)/\(∀b o,b<W.heap.size->w1.frozen? ⟨b,o,none⟩=W.frozen? ⟨b,o,none⟩):=
  ⟨λb o h=>hb.cell (p:=⟨b,o,none⟩) h,λb o h=>hb.frozen (p:=⟨b,o,none⟩) h⟩
theorem below_drewN {B:Nat}{a w:World}(h:Below B a w)(n:Nat):Below B a (w.drewN n):=⟨h.os,h.tape,h.output,h.size,h.block⟩

theorem iE {k:IntKind}{a b:Int}(h:a=b):Ending.returned (.int k a)= .returned (.int k b):=by rw[h]
theorem jw {a b:Bool}(h:a=b):Ending.returned (.bool a)= .returned (.bool b):=by rw[h]
/-- A slice value of n elements of 'size' cells each that reads as the cells xs, nil and empty let in; what it shows lies below block B. -/
def Reads (w:World)(B size:Nat)(A:Option Addr)(n:Nat)(xs:List Value):Prop:=
  xs.length=n*size/\(0<n->∃b off,A=some ⟨b,off,none⟩/\b<B/\∀j u,xs[j]?=some u->w.cell? ⟨b,off+j,none⟩=some u)

section
variable {w w' : World} {B B' size n : Nat} {A : Option Addr} {xs : List Value}
theorem Reads.none_:Reads w B size A 0 []:=⟨by simp,λh=>absurd h (by omega)⟩
theorem Reads.Ol (h:Reads w B size A n xs)(hn:0<n):∃b off,A=some ⟨b,off,none⟩/\b<B/\∀j u,xs[j]?=some u->w.cell? ⟨b,off+j,none⟩=some u:=h.2 hn
theorem Reads.keep (h:Reads w B size A n xs)(hk:∀b o,b<B->w'.cell? ⟨b,o,none⟩=w.cell? ⟨b,o,none⟩):Reads w' B size A n xs:=
  ⟨h.1,λhn=>by
    obtain⟨b,off,e,hb,hc⟩:=h.2 hn
    exact⟨b,off,e,hb,λj u hu=>(hk _ _ hb).trans (hc j u hu)⟩⟩
theorem Reads.more (h:Reads w B size A n xs)(hB:B<=B'):Reads w B' size A n xs:=
  ⟨h.1,λhn=>by
    obtain⟨b,off,e,hb,hc⟩:=h.2 hn
    exact⟨b,off,e,by omega,hc⟩⟩
theorem Reads.below (h:Reads w B size A n xs)(hb:Below B w w'):Reads w' B size A n xs:=h.keep λb o hp=>hb.cell (p:=⟨b,o,none⟩) hp
theorem Reads.drew (h:Reads w B size A n xs):Reads w.drew B size A n xs:=h
theorem Reads.drewN (h:Reads w B size A n xs)(k:Nat):Reads (w.drewN k) B size A n xs:=h
theorem Reads.alloc (h:Reads w B size A n xs)(hB:B<=w.heap.size)(o:Obj):Reads (w.alloc o) B size A n xs:=h.keep λb off hp=>World.cell?_alloc_lt w o ⟨b,off,none⟩ (yp hp hB)
theorem Reads.jy {base:Nat}{e:TypeId}{c:Nat}(h:w.ownsRow base e size (.slice A n c) n xs):Reads w w.heap.size size A n xs:=by
  refine⟨h.1,λhn=> ?_⟩;obtain⟨g,cap,hv,_,hlt⟩:=h.form hn
  have hA:A=some ⟨g,0,none⟩:=by injection hv
  subst hA;refine⟨g,0,rfl,hlt,λj u hu=> ?_⟩;have:=h.cells (g:=g) rfl j u hu;by_cases h0:j=0
  · subst h0;simpa[Addr.add]using this
  · simpa[Addr.add,h0]using this
end

/-- block g is just the cells cs of element type t, none frozen -/
def aj (w:World)(g:Nat)(t:TypeId)(cs:Array Value):Prop:=w.heap[g]?=some (.cells cs t (0,0))
section
variable {w w' : World} {g : Nat} {t : TypeId} {cs : Array Value}
theorem aj.lt (h:aj w g t cs):g<w.heap.size:=by
  rcases Kd g w.heap.size with hlt|hge
  · exact hlt
  · unfold aj at h;rw[X2 hge]at h;cases h
theorem aj.cell (h:aj w g t cs)(i:Nat):w.cell? ⟨g,i,none⟩=cs[i]?:=cell_of_row w g i cs t (0,0) h
theorem aj.frozen (h:aj w g t cs)(i:Nat):w.frozen? ⟨g,i,none⟩=false:=by
  unfold aj at h;simp[World.frozen?,h]
theorem aj.new (w:World)(t:TypeId)(cs:Array Value):aj (w.alloc (.cells cs t)) w.heap.size t cs:=heap_alloc_new w _
theorem aj.drew (h:aj w g t cs):aj w.drew g t cs:=h
theorem aj.drewN (h:aj w g t cs)(n:Nat):aj (w.drewN n) g t cs:=h
theorem aj.alloc (h:aj w g t cs)(o:Obj):aj (w.alloc o) g t cs:=(Below.heap_alloc w o g h.lt).trans h
theorem aj.ak (h:aj w g t cs)(i:Nat)(u:Value):aj (w.setCell ⟨g,i,none⟩ u) g t (cs.setIfInBounds i u):=by
  unfold aj at h|-;simp[World.setCell,Array.getElem?_modify,h]
theorem aj.far (h:aj w g t cs){p:Addr}(hp:g≠p.block)(u:Value):aj (w.setCell p u) g t cs:=(Below.heap_setCell w p u g hp).trans h
theorem aj.below {B:Nat}(h:aj w g t cs)(hb:Below B w w')(hg:g<B):aj w' g t cs:=(hb.block g hg).trans h
theorem aj.grown {row:Option Nat}(h:aj w g t cs)(hb:w.grownBy w' row)(hg:some g≠row):aj w' g t cs:=(hb.block g h.lt hg).trans h
end


/-- slice type t of elements of type e, each of 'size' cells and 'bytes' bytes -/
def sZ (P:Program)(t e:TypeId)(size bytes:Nat):Prop:=
  ∃i z,P.underlying t=some (.slice e)/\P.info? e=some i/\i.zero=some z/\i.size=size/\i.bytes=bytes/\z.cells.size=size/\0<size/\bytes<=4096
theorem BO {P:Program}{t e:TypeId}{z:Value}{size bytes:Nat}(ht:P.underlying t=some (.slice e))(h:(P.info? e).map (λi=>(i.zero,i.size,i.bytes))=some (some z,size,bytes))
    (h1:z.cells.size=size) (h2:0<size) (h3:bytes<=4096):sZ P t e size bytes:=by
  obtain⟨i,hi,hz0,hz1,hz2⟩:=info_parts h;exact⟨i,z,ht,hi,hz0,hz1,hz2,h1,h2,h3⟩

/-- what an append has done: below 'base' all is as it was; of the old blocks the appended row's alone may have turned; the row lies where it lay, or in a new block -/
structure o9 (w0:World)(base:Nat)(v:Value)(w':World)(v':Value):Prop where
  below:Below base w0 w'
  lH:w0.grownBy w' v.ownBlock
  at_:v'.ownBlock=v.ownBlock\/∃g,v'.ownBlock=some g/\w0.heap.size<=g
theorem o9.size {w0 w':World}{base:Nat}{v v':Value}(h:o9 w0 base v w' v'):w0.heap.size<=w'.heap.size:=h.lH.size

/-- append of one element, which stands in a block that was laid for it, onto a row of the call's own -/
theorem gD {P:Program}{w0:World}{ops:Array Oper}{rest:List Oper}{o:Oper}{a:Act}{Q:Exit->Act->World->Prop}(hgd:o.guard=none){s x:Operand}{t:TypeId}
    (ho:o.op= .call {callee:= .builtin .append,args:= #[s,x],argTypes:= #[t,t]}) {e:TypeId} {size bytes:Nat} (hT:sZ P t e size bytes)
    {base:Nat} {v:Value} {n:Nat} {xs:List Value} (hown:w0.ownsRow base e size v n xs) (hs:a.eval s=v) {cs:Array Value} {t':TypeId} {c:Nat}
    {g:Nat} (hx:a.eval x= .slice (some ⟨g,0,none⟩) 1 c) (hg0:g=w0.heap.size) (hl:cs.size=size) (h1':(cs.toList.all λu=>u.oneCell')=true)
    (hn:n<33554432) (hbase:base<=w0.heap.size)
    (h:∀v' w',w'.ownsRow base e size v' (n+1) (xs++cs.toList)->o9 w0 base v w' v'->wpList P ops Q rest (a.put o.dst v') w'):
    wpList P ops Q (o::rest) a (w0.alloc (.cells cs t')):=by
  obtain⟨i,z,ht,hi,hz,hsize,hby,hzs,hsz,hb⟩:=hT;have h1:∀u∈cs.toList,u.oneCell'=true:=kz.1 h1';subst hg0
  refine wpList_append_own_at (w0.alloc (.cells cs t')) hgd s x t ho base e i z size bytes ht hi hz hsize hby hzs hsz v n xs hs (hown.alloc _) ⟨w0.heap.size,0,none⟩ 1 c cs.toList hx (by simp[hl]) ?_ h1
    (by simp only[maxLen];omega) ?_ (by simp;omega) ?_
  · intro j u hj
    have hadd:(⟨w0.heap.size,0,none⟩:Addr).add j=⟨w0.heap.size,j,none⟩:=by unfold Addr.add;split<;>simp_all
    rw[hadd,(aj.new w0 t' cs).cell];simpa using hj
  · have:(n+1)*bytes<=33554432*4096:=vp (by omega) hb;omega
  · intro v' w' hown' hg _ hat;have hlt:=hown.lt;have hb0:Below base w0 (w0.alloc (.cells cs t')):=(Below.refl _ _).alloc hbase _;refine h v' w' hown' ⟨hb0.grown hg (by simp;omega) (λk hk=>(hlt k hk).1),⟨hg.os,hg.tape,hg.output,by have:=hg.size;simp at this;omega,λk hk hne=> ?_⟩, ?_⟩
    · exact(hg.block k (by simp;omega) hne).trans (Below.heap_alloc w0 _ k hk)
    · rcases hat with hat|hat
      · exact .inl hat
      · exact .inr ⟨_,hat,by simp⟩

/-- a row of the call's own stays, whatever other row has grown -/
theorem o9.keep {w0 w':World}{base:Nat}{v v':Value}(h:o9 w0 base v w' v'){b e size:Nat}{u:Value}{n:Nat}{xs:List Value}(hu:w0.ownsRow b e size u n xs)
    (hne:u.ownBlock=Option.none\/u.ownBlock≠v.ownBlock):w'.ownsRow b e size u n xs:=hu.kept h.lH hne
theorem bq {w:World}{b e size n:Nat}{v:Value}{xs:List Value}(hv:w.ownsRow b e size v n xs):∃A c,v= .slice A n c:=by
  rcases hv.2 with⟨rfl,rfl⟩|⟨g,cap,cur,rfl,_⟩
  · exact⟨_,_,rfl⟩
  · exact⟨_,_,rfl⟩
theorem own_below {w w1:World}{base B:Nat}{e:TypeId}{size:Nat}{v:Value}{n:Nat}{xs:List Value}(h:w.ownsRow base e size v n xs)(hb:Below B w w1)(hB:w.heap.size<=B):w1.ownsRow base e size v n xs:=by
  have hg:w.grownBy w1 Option.none:=⟨hb.os,hb.tape,hb.output,hb.size,λk hk _=>hb.block k (by omega)⟩;refine h.kept hg ?_
  cases hv:v.ownBlock with
  |none=>exact .inl rfl
  |some k=>exact .inr (by simp)

end Go.Proofs.YtkddpchpcepjgaaGreatDoor

/-! Short names for what is often said: the cells of a block, a row's items. No statement of the claim. -/
namespace Go.Proofs.YtkddpchpcepjgaaGreatDoor
open Go.RowKit Go

theorem qJ {p q:Prop}(h:p)(k:q):p/\q:=⟨h,k⟩
structure Hqq (p:Prop):Prop where o:p
theorem qd {p:Prop}(h:p):Hqq p:=⟨h⟩
abbrev nI (n:Nat):Value:= .int .i64 (n:Int)
abbrev nU (n:Nat):Value:= .int .u64 (n:Int)
abbrev pQ (b:Nat):Value:= .pointer (some ⟨b,0,none⟩)
theorem dL {p:World->Prop}{w:World}(t:TypeId)(cs:Array Value)(h:∀v,aj v w.heap.size t cs/\Below w.heap.size w v->p v):p (w.alloc (.cells cs t)):=h _ ⟨aj.new w t cs,(Below.refl w.heap.size w).alloc (zb _) (.cells cs t)⟩
theorem gl:(∀(l:List Value) (i:Nat),l.toArray[i]?=l[i]?)/\(∀(a:Value) (l:List Value),(a::l)[0]?=some a)/\(∀(a:Value) (l:List Value) (i:Nat),(a::l)[i+1]?=l[i]?):=⟨λ_ _=>zr ..,λ_ _=>zc,λ_ _ _=>Q2⟩
theorem pt:(∀(a:Act) (i:Tmp) (v:Value),a.put (some i) v={a with tmps:=a.tmps.setIfInBounds i v})/\(∀(a:Act) (v:Value),a.put none v=a)/\(∀(l:List Value) (i:Nat) (v:Value),l.toArray.setIfInBounds i v=(l.set i v).toArray)/\(∀(a b:Value) (l:List Value),(a::l).set 0 b=b::l)/\(∀(a b:Value) (l:List Value) (i:Nat),(a::l).set (i+1) b=a::l.set i b):=⟨λ_ _ _=>rfl,λ_ _=>rfl,λ_ _ _=>yW ..,λ_ _ _=>XX,λ_ _ _ _=>j8⟩
section
variable {w : World} {g : Nat} {t : TypeId} {a0 a1 a2 a3 a4 a5 a6 a7 a8 a9 AP Du a12 a13 a14 : Value} {l : List Value}
theorem lI (w:World)(t0:TypeId)(c0:Array Value)(t1:TypeId)(c1:Array Value):∃W,W=((w.alloc (.cells c0 t0)).alloc (.cells c1 t1))/\Below w.heap.size w W/\aj W (w.heap.size) t0 c0/\aj W (w.heap.size+1) t1 c1:=⟨_,rfl,(((Below.refl w.heap.size w).alloc (by simp<;>omega) (.cells c0 t0)).alloc (by simp<;>omega) (.cells c1 t1)),by simpa using((aj.new w t0 c0).alloc (.cells c1 t1)),by simpa using(aj.new (w.alloc (.cells c0 t0)) t1 c1)⟩
theorem qX3 (w:World)(t0:TypeId)(c0:Array Value)(t1:TypeId)(c1:Array Value)(t2:TypeId)(c2:Array Value):∃W,W=(((w.alloc (.cells c0 t0)).alloc (.cells c1 t1)).alloc (.cells c2 t2))/\Below w.heap.size w W/\aj W (w.heap.size) t0 c0/\aj W (w.heap.size+1) t1 c1/\aj W (w.heap.size+1+1) t2 c2:=⟨_,rfl,((((Below.refl w.heap.size w).alloc (by simp<;>omega) (.cells c0 t0)).alloc (by simp<;>omega) (.cells c1 t1)).alloc (by simp<;>omega) (.cells c2 t2)),by simpa using(((aj.new w t0 c0).alloc (.cells c1 t1)).alloc (.cells c2 t2)),by simpa using((aj.new (w.alloc (.cells c0 t0)) t1 c1).alloc (.cells c2 t2)),by simpa using(aj.new ((w.alloc (.cells c0 t0)).alloc (.cells c1 t1)) t2 c2)⟩
theorem qX4 (w:World)(t0:TypeId)(c0:Array Value)(t1:TypeId)(c1:Array Value)(t2:TypeId)(c2:Array Value)(t3:TypeId)(c3:Array Value):∃W,W=((((w.alloc (.cells c0 t0)).alloc (.cells c1 t1)).alloc (.cells c2 t2)).alloc (.cells c3 t3))/\Below w.heap.size w W/\aj W (w.heap.size) t0 c0/\aj W (w.heap.size+1) t1 c1/\aj W (w.heap.size+1+1) t2 c2/\aj W (w.heap.size+1+1+1) t3 c3:=⟨_,rfl,(((((Below.refl w.heap.size w).alloc (by simp<;>omega) (.cells c0 t0)).alloc (by simp<;>omega) (.cells c1 t1)).alloc (by simp<;>omega) (.cells c2 t2)).alloc (by simp<;>omega) (.cells c3 t3)),by simpa using((((aj.new w t0 c0).alloc (.cells c1 t1)).alloc (.cells c2 t2)).alloc (.cells c3 t3)),by simpa using(((aj.new (w.alloc (.cells c0 t0)) t1 c1).alloc (.cells c2 t2)).alloc (.cells c3 t3)),by simpa using((aj.new ((w.alloc (.cells c0 t0)).alloc (.cells c1 t1)) t2 c2).alloc (.cells c3 t3)),by simpa using(aj.new (((w.alloc (.cells c0 t0)).alloc (.cells c1 t1)).alloc (.cells c2 t2)) t3 c3)⟩
theorem qX5 (w:World)(t0:TypeId)(c0:Array Value)(t1:TypeId)(c1:Array Value)(t2:TypeId)(c2:Array Value)(t3:TypeId)(c3:Array Value)(t4:TypeId)(c4:Array Value):∃W,W=(((((w.alloc (.cells c0 t0)).alloc (.cells c1 t1)).alloc (.cells c2 t2)).alloc (.cells c3 t3)).alloc (.cells c4 t4))/\Below w.heap.size w W/\aj W (w.heap.size) t0 c0/\aj W (w.heap.size+1) t1 c1/\aj W (w.heap.size+1+1) t2 c2/\aj W (w.heap.size+1+1+1) t3 c3/\aj W (w.heap.size+1+1+1+1) t4 c4:=⟨_,rfl,((((((Below.refl w.heap.size w).alloc (by simp<;>omega) (.cells c0 t0)).alloc (by simp<;>omega) (.cells c1 t1)).alloc (by simp<;>omega) (.cells c2 t2)).alloc (by simp<;>omega) (.cells c3 t3)).alloc (by simp<;>omega) (.cells c4 t4)),by simpa using(((((aj.new w t0 c0).alloc (.cells c1 t1)).alloc (.cells c2 t2)).alloc (.cells c3 t3)).alloc (.cells c4 t4)),by simpa using((((aj.new (w.alloc (.cells c0 t0)) t1 c1).alloc (.cells c2 t2)).alloc (.cells c3 t3)).alloc (.cells c4 t4)),by simpa using(((aj.new ((w.alloc (.cells c0 t0)).alloc (.cells c1 t1)) t2 c2).alloc (.cells c3 t3)).alloc (.cells c4 t4)),by simpa using((aj.new (((w.alloc (.cells c0 t0)).alloc (.cells c1 t1)).alloc (.cells c2 t2)) t3 c3).alloc (.cells c4 t4)),by simpa using(aj.new ((((w.alloc (.cells c0 t0)).alloc (.cells c1 t1)).alloc (.cells c2 t2)).alloc (.cells c3 t3)) t4 c4)⟩
theorem aj.c2 (h:aj w g t (a0::a1::l).toArray):w.cell? ⟨g,0,none⟩=some a0/\w.cell? ⟨g,1,none⟩=some a1:=⟨h.cell 0,h.cell 1⟩
theorem aj.c3 (h:aj w g t (a0::a1::a2::l).toArray):w.cell? ⟨g,0,none⟩=some a0/\w.cell? ⟨g,1,none⟩=some a1/\w.cell? ⟨g,2,none⟩=some a2:=⟨h.cell 0,h.cell 1,h.cell 2⟩
theorem aj.c4 (h:aj w g t (a0::a1::a2::a3::l).toArray):w.cell? ⟨g,0,none⟩=some a0/\w.cell? ⟨g,1,none⟩=some a1/\w.cell? ⟨g,2,none⟩=some a2/\w.cell? ⟨g,3,none⟩=some a3:=⟨h.cell 0,h.cell 1,h.cell 2,h.cell 3⟩
theorem aj.c5 (h:aj w g t (a0::a1::a2::a3::a4::l).toArray):w.cell? ⟨g,0,none⟩=some a0/\w.cell? ⟨g,1,none⟩=some a1/\w.cell? ⟨g,2,none⟩=some a2/\w.cell? ⟨g,3,none⟩=some a3/\w.cell? ⟨g,4,none⟩=some a4:=⟨h.cell 0,h.cell 1,h.cell 2,h.cell 3,h.cell 4⟩
theorem aj.c6 (h:aj w g t (a0::a1::a2::a3::a4::a5::l).toArray):w.cell? ⟨g,0,none⟩=some a0/\w.cell? ⟨g,1,none⟩=some a1/\w.cell? ⟨g,2,none⟩=some a2/\w.cell? ⟨g,3,none⟩=some a3/\w.cell? ⟨g,4,none⟩=some a4/\w.cell? ⟨g,5,none⟩=some a5:=⟨h.cell 0,h.cell 1,h.cell 2,h.cell 3,h.cell 4,h.cell 5⟩
theorem aj.c7 (h:aj w g t (a0::a1::a2::a3::a4::a5::a6::l).toArray):w.cell? ⟨g,0,none⟩=some a0/\w.cell? ⟨g,1,none⟩=some a1/\w.cell? ⟨g,2,none⟩=some a2/\w.cell? ⟨g,3,none⟩=some a3/\w.cell? ⟨g,4,none⟩=some a4/\w.cell? ⟨g,5,none⟩=some a5/\w.cell? ⟨g,6,none⟩=some a6:=⟨h.cell 0,h.cell 1,h.cell 2,h.cell 3,h.cell 4,h.cell 5,h.cell 6⟩
theorem aj.c8 (h:aj w g t (a0::a1::a2::a3::a4::a5::a6::a7::l).toArray):w.cell? ⟨g,0,none⟩=some a0/\w.cell? ⟨g,1,none⟩=some a1/\w.cell? ⟨g,2,none⟩=some a2/\w.cell? ⟨g,3,none⟩=some a3/\w.cell? ⟨g,4,none⟩=some a4/\w.cell? ⟨g,5,none⟩=some a5/\w.cell? ⟨g,6,none⟩=some a6/\w.cell? ⟨g,7,none⟩=some a7:=⟨h.cell 0,h.cell 1,h.cell 2,h.cell 3,h.cell 4,h.cell 5,h.cell 6,h.cell 7⟩
theorem aj.c9 (h:aj w g t (a0::a1::a2::a3::a4::a5::a6::a7::a8::l).toArray):w.cell? ⟨g,0,none⟩=some a0/\w.cell? ⟨g,1,none⟩=some a1/\w.cell? ⟨g,2,none⟩=some a2/\w.cell? ⟨g,3,none⟩=some a3/\w.cell? ⟨g,4,none⟩=some a4/\w.cell? ⟨g,5,none⟩=some a5/\w.cell? ⟨g,6,none⟩=some a6/\w.cell? ⟨g,7,none⟩=some a7/\w.cell? ⟨g,8,none⟩=some a8:=⟨h.cell 0,h.cell 1,h.cell 2,h.cell 3,h.cell 4,h.cell 5,h.cell 6,h.cell 7,h.cell 8⟩
theorem aj.c10 (h:aj w g t (a0::a1::a2::a3::a4::a5::a6::a7::a8::a9::l).toArray):w.cell? ⟨g,0,none⟩=some a0/\w.cell? ⟨g,1,none⟩=some a1/\w.cell? ⟨g,2,none⟩=some a2/\w.cell? ⟨g,3,none⟩=some a3/\w.cell? ⟨g,4,none⟩=some a4/\w.cell? ⟨g,5,none⟩=some a5/\w.cell? ⟨g,6,none⟩=some a6/\w.cell? ⟨g,7,none⟩=some a7/\w.cell? ⟨g,8,none⟩=some a8/\w.cell? ⟨g,9,none⟩=some a9:=⟨h.cell 0,h.cell 1,h.cell 2,h.cell 3,h.cell 4,h.cell 5,h.cell 6,h.cell 7,h.cell 8,h.cell 9⟩
theorem aj.c11 (h:aj w g t (a0::a1::a2::a3::a4::a5::a6::a7::a8::a9::AP::l).toArray):w.cell? ⟨g,0,none⟩=some a0/\w.cell? ⟨g,1,none⟩=some a1/\w.cell? ⟨g,2,none⟩=some a2/\w.cell? ⟨g,3,none⟩=some a3/\w.cell? ⟨g,4,none⟩=some a4/\w.cell? ⟨g,5,none⟩=some a5/\w.cell? ⟨g,6,none⟩=some a6/\w.cell? ⟨g,7,none⟩=some a7/\w.cell? ⟨g,8,none⟩=some a8/\w.cell? ⟨g,9,none⟩=some a9/\w.cell? ⟨g,10,none⟩=some AP:=⟨h.cell 0,h.cell 1,h.cell 2,h.cell 3,h.cell 4,h.cell 5,h.cell 6,h.cell 7,h.cell 8,h.cell 9,h.cell 10⟩
theorem aj.c12 (h:aj w g t (a0::a1::a2::a3::a4::a5::a6::a7::a8::a9::AP::Du::l).toArray):w.cell? ⟨g,0,none⟩=some a0/\w.cell? ⟨g,1,none⟩=some a1/\w.cell? ⟨g,2,none⟩=some a2/\w.cell? ⟨g,3,none⟩=some a3/\w.cell? ⟨g,4,none⟩=some a4/\w.cell? ⟨g,5,none⟩=some a5/\w.cell? ⟨g,6,none⟩=some a6/\w.cell? ⟨g,7,none⟩=some a7/\w.cell? ⟨g,8,none⟩=some a8/\w.cell? ⟨g,9,none⟩=some a9/\w.cell? ⟨g,10,none⟩=some AP/\w.cell? ⟨g,11,none⟩=some Du:=⟨h.cell 0,h.cell 1,h.cell 2,h.cell 3,h.cell 4,h.cell 5,h.cell 6,h.cell 7,h.cell 8,h.cell 9,h.cell 10,h.cell 11⟩
theorem aj.c13 (h:aj w g t (a0::a1::a2::a3::a4::a5::a6::a7::a8::a9::AP::Du::a12::l).toArray):w.cell? ⟨g,0,none⟩=some a0/\w.cell? ⟨g,1,none⟩=some a1/\w.cell? ⟨g,2,none⟩=some a2/\w.cell? ⟨g,3,none⟩=some a3/\w.cell? ⟨g,4,none⟩=some a4/\w.cell? ⟨g,5,none⟩=some a5/\w.cell? ⟨g,6,none⟩=some a6/\w.cell? ⟨g,7,none⟩=some a7/\w.cell? ⟨g,8,none⟩=some a8/\w.cell? ⟨g,9,none⟩=some a9/\w.cell? ⟨g,10,none⟩=some AP/\w.cell? ⟨g,11,none⟩=some Du/\w.cell? ⟨g,12,none⟩=some a12:=⟨h.cell 0,h.cell 1,h.cell 2,h.cell 3,h.cell 4,h.cell 5,h.cell 6,h.cell 7,h.cell 8,h.cell 9,h.cell 10,h.cell 11,h.cell 12⟩
theorem aj.c14 (h:aj w g t (a0::a1::a2::a3::a4::a5::a6::a7::a8::a9::AP::Du::a12::a13::l).toArray):w.cell? ⟨g,0,none⟩=some a0/\w.cell? ⟨g,1,none⟩=some a1/\w.cell? ⟨g,2,none⟩=some a2/\w.cell? ⟨g,3,none⟩=some a3/\w.cell? ⟨g,4,none⟩=some a4/\w.cell? ⟨g,5,none⟩=some a5/\w.cell? ⟨g,6,none⟩=some a6/\w.cell? ⟨g,7,none⟩=some a7/\w.cell? ⟨g,8,none⟩=some a8/\w.cell? ⟨g,9,none⟩=some a9/\w.cell? ⟨g,10,none⟩=some AP/\w.cell? ⟨g,11,none⟩=some Du/\w.cell? ⟨g,12,none⟩=some a12/\w.cell? ⟨g,13,none⟩=some a13:=⟨h.cell 0,h.cell 1,h.cell 2,h.cell 3,h.cell 4,h.cell 5,h.cell 6,h.cell 7,h.cell 8,h.cell 9,h.cell 10,h.cell 11,h.cell 12,h.cell 13⟩
theorem aj.c15 (h:aj w g t (a0::a1::a2::a3::a4::a5::a6::a7::a8::a9::AP::Du::a12::a13::a14::l).toArray):w.cell? ⟨g,0,none⟩=some a0/\w.cell? ⟨g,1,none⟩=some a1/\w.cell? ⟨g,2,none⟩=some a2/\w.cell? ⟨g,3,none⟩=some a3/\w.cell? ⟨g,4,none⟩=some a4/\w.cell? ⟨g,5,none⟩=some a5/\w.cell? ⟨g,6,none⟩=some a6/\w.cell? ⟨g,7,none⟩=some a7/\w.cell? ⟨g,8,none⟩=some a8/\w.cell? ⟨g,9,none⟩=some a9/\w.cell? ⟨g,10,none⟩=some AP/\w.cell? ⟨g,11,none⟩=some Du/\w.cell? ⟨g,12,none⟩=some a12/\w.cell? ⟨g,13,none⟩=some a13/\w.cell? ⟨g,14,none⟩=some a14:=⟨h.cell 0,h.cell 1,h.cell 2,h.cell 3,h.cell 4,h.cell 5,h.cell 6,h.cell 7,h.cell 8,h.cell 9,h.cell 10,h.cell 11,h.cell 12,h.cell 13,h.cell 14⟩
variable {cs : Array Value}
theorem aj.f3 (h:aj w g t cs):w.frozen? ⟨g,0,none⟩=false/\w.frozen? ⟨g,1,none⟩=false/\w.frozen? ⟨g,2,none⟩=false:=⟨h.frozen 0,h.frozen 1,h.frozen 2⟩
theorem aj.f4 (h:aj w g t cs):w.frozen? ⟨g,0,none⟩=false/\w.frozen? ⟨g,1,none⟩=false/\w.frozen? ⟨g,2,none⟩=false/\w.frozen? ⟨g,3,none⟩=false:=⟨h.frozen 0,h.frozen 1,h.frozen 2,h.frozen 3⟩
theorem aj.f5 (h:aj w g t cs):w.frozen? ⟨g,0,none⟩=false/\w.frozen? ⟨g,1,none⟩=false/\w.frozen? ⟨g,2,none⟩=false/\w.frozen? ⟨g,3,none⟩=false/\w.frozen? ⟨g,4,none⟩=false:=⟨h.frozen 0,h.frozen 1,h.frozen 2,h.frozen 3,h.frozen 4⟩
theorem aj.f6 (h:aj w g t cs):w.frozen? ⟨g,0,none⟩=false/\w.frozen? ⟨g,1,none⟩=false/\w.frozen? ⟨g,2,none⟩=false/\w.frozen? ⟨g,3,none⟩=false/\w.frozen? ⟨g,4,none⟩=false/\w.frozen? ⟨g,5,none⟩=false:=⟨h.frozen 0,h.frozen 1,h.frozen 2,h.frozen 3,h.frozen 4,h.frozen 5⟩
theorem aj.f7 (h:aj w g t cs):w.frozen? ⟨g,0,none⟩=false/\w.frozen? ⟨g,1,none⟩=false/\w.frozen? ⟨g,2,none⟩=false/\w.frozen? ⟨g,3,none⟩=false/\w.frozen? ⟨g,4,none⟩=false/\w.frozen? ⟨g,5,none⟩=false/\w.frozen? ⟨g,6,none⟩=false:=⟨h.frozen 0,h.frozen 1,h.frozen 2,h.frozen 3,h.frozen 4,h.frozen 5,h.frozen 6⟩
theorem aj.f8 (h:aj w g t cs):w.frozen? ⟨g,0,none⟩=false/\w.frozen? ⟨g,1,none⟩=false/\w.frozen? ⟨g,2,none⟩=false/\w.frozen? ⟨g,3,none⟩=false/\w.frozen? ⟨g,4,none⟩=false/\w.frozen? ⟨g,5,none⟩=false/\w.frozen? ⟨g,6,none⟩=false/\w.frozen? ⟨g,7,none⟩=false:=⟨h.frozen 0,h.frozen 1,h.frozen 2,h.frozen 3,h.frozen 4,h.frozen 5,h.frozen 6,h.frozen 7⟩
theorem aj.f10 (h:aj w g t cs):w.frozen? ⟨g,0,none⟩=false/\w.frozen? ⟨g,1,none⟩=false/\w.frozen? ⟨g,2,none⟩=false/\w.frozen? ⟨g,3,none⟩=false/\w.frozen? ⟨g,4,none⟩=false/\w.frozen? ⟨g,5,none⟩=false/\w.frozen? ⟨g,6,none⟩=false/\w.frozen? ⟨g,7,none⟩=false/\w.frozen? ⟨g,8,none⟩=false/\w.frozen? ⟨g,9,none⟩=false:=⟨h.frozen 0,h.frozen 1,h.frozen 2,h.frozen 3,h.frozen 4,h.frozen 5,h.frozen 6,h.frozen 7,h.frozen 8,h.frozen 9⟩
theorem aj.f12 (h:aj w g t cs):w.frozen? ⟨g,0,none⟩=false/\w.frozen? ⟨g,1,none⟩=false/\w.frozen? ⟨g,2,none⟩=false/\w.frozen? ⟨g,3,none⟩=false/\w.frozen? ⟨g,4,none⟩=false/\w.frozen? ⟨g,5,none⟩=false/\w.frozen? ⟨g,6,none⟩=false/\w.frozen? ⟨g,7,none⟩=false/\w.frozen? ⟨g,8,none⟩=false/\w.frozen? ⟨g,9,none⟩=false/\w.frozen? ⟨g,10,none⟩=false/\w.frozen? ⟨g,11,none⟩=false:=⟨h.frozen 0,h.frozen 1,h.frozen 2,h.frozen 3,h.frozen 4,h.frozen 5,h.frozen 6,h.frozen 7,h.frozen 8,h.frozen 9,h.frozen 10,h.frozen 11⟩
theorem aj.f15 (h:aj w g t cs):w.frozen? ⟨g,0,none⟩=false/\w.frozen? ⟨g,1,none⟩=false/\w.frozen? ⟨g,2,none⟩=false/\w.frozen? ⟨g,3,none⟩=false/\w.frozen? ⟨g,4,none⟩=false/\w.frozen? ⟨g,5,none⟩=false/\w.frozen? ⟨g,6,none⟩=false/\w.frozen? ⟨g,7,none⟩=false/\w.frozen? ⟨g,8,none⟩=false/\w.frozen? ⟨g,9,none⟩=false/\w.frozen? ⟨g,10,none⟩=false/\w.frozen? ⟨g,11,none⟩=false/\w.frozen? ⟨g,12,none⟩=false/\w.frozen? ⟨g,13,none⟩=false/\w.frozen? ⟨g,14,none⟩=false:=⟨h.frozen 0,h.frozen 1,h.frozen 2,h.frozen 3,h.frozen 4,h.frozen 5,h.frozen 6,h.frozen 7,h.frozen 8,h.frozen 9,h.frozen 10,h.frozen 11,h.frozen 12,h.frozen 13,h.frozen 14⟩
end
end Go.Proofs.YtkddpchpcepjgaaGreatDoor

/-! Words of eight lanes, lane by lane. No program in sight. -/
namespace Go.Proofs.YtkddpchpcepjgaaGreatDoor.cu
open Go.RowKit Go
variable {a b : Nat} {l t : List Nat}
def w8:List Nat->Nat
 | []=>0
 |b::t=>b+256*w8 t
def Bytes (l:List Nat):Prop:=∀b∈l,b<256
theorem Bytes.head (h:Bytes (b::t)):b<256:=h b (by simp)
theorem Bytes.tail (h:Bytes (b::t)):Bytes t:=λx hx=>h x (by simp[hx])
theorem Od:∀(l:List Nat),Bytes l->w8 l<256^l.length
 | [],_=>by simp[w8]
 |b::t,h=>by
  have h1:=Od t h.tail;have h2:=h.head;simp only[w8,ZS,xd];omega
theorem rP (h:Bytes l)(hl:l.length=8):w8 l<18446744073709551616:=by
 have:=Od l h;rw[hl]at this;exact this
theorem oJ (a x j:Nat)(ha:a<256):(a+256*x).testBit j=if j<8 then a.testBit j else x.testBit (j-8):=by
 have:=Nat.testBit_two_pow_mul_add x (b:=a) (i:=8) (by simpa using ha) j;rw[show 2^8*x+a=a+256*x by omega]at this;exact this
theorem and_cons (x y:Nat)(ha:a<256)(hb:b<256):(a+256*x) &&& (b+256*y)=(a &&& b)+256*(x &&& y):=by
 apply Nat.eq_of_testBit_eq;intro j;have h:a &&& b<256:=Nat.lt_of_le_of_lt Nat.and_le_left ha;rw[Nat.testBit_and,oJ _ _ _ ha,oJ _ _ _ hb,oJ _ _ _ h]
 split<;>rw[Nat.testBit_and]
theorem or_cons (x y:Nat)(ha:a<256)(hb:b<256):(a+256*x)|||(b+256*y)=(a|||b)+256*(x|||y):=by
 apply Nat.eq_of_testBit_eq;intro j
 have h:a|||b<256:=Nat.or_lt_two_pow (n:=8) ha hb
 rw[Nat.testBit_or,oJ _ _ _ ha,oJ _ _ _ hb,oJ _ _ _ h]
 split<;>rw[Nat.testBit_or]
theorem Zn (x y:Nat)(ha:a<256)(hb:b<256):(a+256*x)^^^(b+256*y)=(a^^^b)+256*(x^^^y):=by
 apply Nat.eq_of_testBit_eq;intro j;have h:a^^^b<256:=Nat.xor_lt_two_pow (n:=8) ha hb;rw[Nat.testBit_xor,oJ _ _ _ ha,oJ _ _ _ hb,oJ _ _ _ h]
 split<;>rw[Nat.testBit_xor]
theorem AQ:∀(l m:List Nat),l.length=m.length->Bytes l->Bytes m->w8 l &&& w8 m=w8 (List.zipWith (· &&& ·) l m)
 | [],[],_,_,_=>by simp[w8]
 |a::l,b::m,h,hl,hm=>by
  simp only[w8,xz];rw[and_cons _ _ hl.head hm.head,AQ l m (by simpa using h) hl.tail hm.tail]
theorem Uf:∀(l m:List Nat),l.length=m.length->Bytes l->Bytes m->w8 l|||w8 m=w8 (List.zipWith (·|||·) l m)
 | [],[],_,_,_=>by simp[w8]
 |a::l,b::m,h,hl,hm=>by
  simp only[w8,xz];rw[or_cons _ _ hl.head hm.head,Uf l m (by simpa using h) hl.tail hm.tail]
theorem Wi:∀(l m:List Nat),l.length=m.length->Bytes l->Bytes m->w8 l^^^w8 m=w8 (List.zipWith (·^^^·) l m)
 | [],[],_,_,_=>by simp[w8]
 |a::l,b::m,h,hl,hm=>by
  simp only[w8,xz];rw[Zn _ _ hl.head hm.head,Wi l m (by simpa using h) hl.tail hm.tail]
theorem Wj:∀(l m:List Nat),l.length=m.length->w8 l+w8 m=w8 (List.zipWith (·+·) l m)
 | [],[],_=>by simp[w8]
 |a::l,b::m,h=>by
  simp only[w8,xz];rw[<-Wj l m (by simpa using h)];omega
theorem Lb {f:Nat->Nat->Nat}(hf:∀a b,a<256->b<256->f a b<256):∀{l m:List Nat},Bytes l->Bytes m->Bytes (List.zipWith f l m)
 | [],_,_,_=>by simp[Bytes]
 |_::_,[],_,_=>by simp[Bytes]
 |a::l,b::m,hl,hm=>λx hx=>by
  rw[xz,zt]at hx;rcases hx with rfl|hx
  ·exact hf _ _ hl.head hm.head
  ·exact Lb hf hl.tail hm.tail x hx
theorem Dv {f:Nat->Nat}(hf:∀a,a<256->f a<256)(hl:Bytes l):Bytes (l.map f):=λx hx=>by
 obtain⟨a,ha,rfl⟩:=Z3.1 hx;exact hf a (hl a ha)
theorem yw (f:Nat->Nat->Nat)(b:Nat):∀(l:List Nat),List.zipWith f l (List.replicate l.length b)=l.map λa=>f a b
 | []=>rfl
 |a::t=>by rw[ZS,List.replicate_succ,xz,yw f b t];rfl
theorem rQ {n:Nat}(h:b<256):Bytes (List.replicate n b):=λx hx=>by rw[vd]at hx;rw[hx.2];exact h
theorem adQ (b:Nat):w8 (List.replicate 8 b)=72340172838076673*b:=by simp[w8,List.replicate];omega
theorem Dw:∀(l:List Nat),Bytes l->w8 (l.map λa=>255-a)=256^l.length-1-w8 l
 | [],_=>by simp[w8]
 |a::t,h=>by
  have h1:=Od t h.tail;have h2:=h.head;simp only[ye,w8,ZS,Dw t h.tail,xd];omega
theorem Lc:(9259542123273814144:Nat)=w8 (List.replicate 8 128):=by simp[w8,List.replicate]
theorem Om:(9187201950435737471:Nat)=w8 (List.replicate 8 127):=by simp[w8,List.replicate]
def eZ (a:Nat):Nat:=if a<128 then 0 else 128
theorem acH (a:Nat)(h:a<256):a &&& 128=eZ a:=by
 have:∀a:Fin 256,a.val &&& 128=eZ a.val:=by decide+kernel
 exact this ⟨a,h⟩
theorem acI (h:Bytes l)(hl:l.length=8):w8 l &&& 9259542123273814144=w8 (l.map eZ):=by
 rw[Lc,<-hl,AQ l _ (by simp) h (rQ (by omega)),yw];congr 1;exact jx λa ha=>acH a (h a ha)
def l9 (b a:Nat):Nat:=if a=b then 128 else 0
theorem Wl (x:Nat)(h:x<256):(255-(((x &&& 127)+127)|||x)) &&& 128=if x=0 then 128 else 0:=by
 have:∀a:Fin 256,(255-(((a.val &&& 127)+127)|||a.val)) &&& 128=if a.val=0 then 128 else 0:=by decide+kernel
 exact this ⟨x,h⟩
theorem Zo (h:Bytes l)(hl:l.length=8)(b:Nat)(hb:b<256):
  (18446744073709551615-((((w8 l^^^w8 (List.replicate 8 b)) &&& 9187201950435737471)+9187201950435737471)|||(w8 l^^^w8 (List.replicate 8 b)))) &&& 9259542123273814144=w8 (l.map (l9 b)):=by
 have hx:w8 l^^^w8 (List.replicate 8 b)=w8 (l.map λa=>a^^^b):=by rw[<-hl,Wi l _ (by simp) h (rQ hb),yw]
 rw[hx]
 have hB:Bytes (l.map λa=>a^^^b):=λx hxm=>by
  obtain⟨a,ha,rfl⟩:=Z3.1 hxm;exact Nat.xor_lt_two_pow (n:=8) (h a ha) hb
 have hlx:(l.map λa=>a^^^b).length=8:=by simpa using hl
 obtain⟨m,hm⟩:∃m,m=l.map λa=>a^^^b:=⟨_,rfl⟩;rw[<-hm]at hB hlx|-
 have e1:w8 m &&& 9187201950435737471=w8 (m.map λa=>a &&& 127):=by rw[Om,<-hlx,AQ m _ (by simp) hB (rQ (by omega)),yw]
 have hB1:Bytes (m.map λa=>(a &&& 127)+127):=Dv (λa _=>by have:=Nat.and_le_right (n:=a) (m:=127);omega) hB
 have e2:w8 (m.map λa=>a &&& 127)+9187201950435737471=w8 (m.map λa=>(a &&& 127)+127):=by
  rw[Om,show List.replicate 8 127=List.replicate (m.map λa=>a &&& 127).length 127 by simp[hlx],Wj _ _ (by simp),yw,js];rfl
 rw[e1,e2,Uf _ m (by simp) hB1 hB]
 have e3:List.zipWith (·|||·) (m.map λa=>(a &&& 127)+127) m=m.map λa=>((a &&& 127)+127)|||a:=by
  clear hB hlx hm e1 hB1 e2 hx
  induction m with
  |nil=>rfl
  |cons a t ih=>simp[ih]
 rw[e3];have hB2:Bytes (m.map λa=>((a &&& 127)+127)|||a):=Dv (λa ha=>Nat.or_lt_two_pow (n:=8) (by have:=Nat.and_le_right (n:=a) (m:=127);omega) ha) hB;have e4:=Dw _ hB2;rw[qS,hlx,js]at e4;rw[show(18446744073709551615:Nat)=256^8-1 by decide,<-e4]
 have hB3:Bytes (m.map ((λa=>255-a)∘λa=>((a &&& 127)+127)|||a)):=λx hxm=>by
  obtain⟨a,ha,rfl⟩:=Z3.1 hxm;show 255-_<256;omega
 rw[Lc,show List.replicate 8 128=List.replicate (m.map ((λa=>255-a)∘λa=>((a &&& 127)+127)|||a)).length 128 by simp[hlx],AQ _ _ (by simp) hB3 (rQ (by omega)),yw,js,hm,js];congr 1;refine jx λa ha=> ?_;show(255-((((a^^^b) &&& 127)+127)|||(a^^^b))) &&& 128=l9 b a;rw[Wl _ (Nat.xor_lt_two_pow (n:=8) (h a ha) hb)];unfold l9;by_cases hab:a=b
 ·subst hab;simp
 ·rw[if_neg hab,if_neg];intro h0;refine hab (Nat.eq_of_testBit_eq λj=> ?_)
  have h1:(a^^^b).testBit j=false:=by rw[h0];exact Nat.zero_testBit j
  rw[Nat.testBit_xor]at h1;revert h1
  cases a.testBit j<;>cases b.testBit j<;>simp
theorem Sm:∀(l:List Nat) (i:Nat),Bytes l->w8 l/256^i % 256=l.getD i 0
 | [],i,_=>by simp[w8]
 |a::t,0,h=>by have:=h.head;simp[w8];omega
 |a::t,i+1,h=>by
  have:=h.head;have ih:=Sm t i h.tail;rw[List.getD_cons_succ,<-ih,w8,xd,vr (256^i) 256,<-kw,show(a+256*w8 t)/256=w8 t by omega]
def dD (i:Nat):List Nat->List Nat
 | []=> []
 |b::t=>if b=128 then i::dD (i+1) t else dD (i+1) t
end Go.Proofs.YtkddpchpcepjgaaGreatDoor.cu
