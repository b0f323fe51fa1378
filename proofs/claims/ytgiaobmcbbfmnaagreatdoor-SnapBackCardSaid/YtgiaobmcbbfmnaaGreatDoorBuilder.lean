/- Rows of numbers, of texts, and of rows of texts, in memory of the call's own. -/
import Derived.Test.YtgiaobmcbbfmnaaGreatDoorProg
import Derived.Test.YtgiaobmcbbfmnaaGreatDoorSq
import Derived.KernelRfl
import Derived.Test.YtgiaobmcbbfmnaaGreatDoorShelf
import Derived.Shelf.Strings.BuilderX
import Derived.Lib.Builder
import Derived.Lib.AppendStr
import Derived.WalkKit
import Derived.WalkSpells
import Derived.WalkLawsBesides
import Derived.Laws.Externs
import Derived.Outline
namespace Go.Proofs.YtgiaobmcbbfmnaaGreatDoor
set_option maxRecDepth 100000
set_option maxHeartbeats 2000000
open Go.RowKit
section
variable {w w' w0 : World} {u v v' va vn vr x : Value} {s : ByteArray} {b base' e n size : Nat} {vs : List Value}
abbrev gQ:=List UInt8
def fO (l:gQ):Value:= .string ⟨l.toArray⟩
theorem U2 (s:ByteArray):fO s.data.toList= .string s:=by unfold fO;congr 1
def lX (w:World)(base:Nat)(v:Value)(l:List Nat):Prop:=w.ownsRow base 3 1 v l.length (l.map fun n:Nat=>Value.int .i64 (n:Int))
def dO (w:World)(base:Nat)(v:Value)(l:List gQ):Prop:=w.ownsRow base 9 1 v l.length (l.map fO)
def kg (w:World)(base:Nat)(v x:Value)(l:List (List gQ)):Prop:=
 ∃vs:List Value,w.ownsRow base 61 1 v l.length vs∧(∀(i:Nat) (r:List gQ),l[i]?=some r→∃u,vs[i]?=some u∧dO w base u r)∧∀u∈vs,u.ownBlock=none∨u.ownBlock≠x.ownBlock
theorem dO.append {base:Nat}{l:List gQ}(h:w.ownsRow base 9 1 v (l.length+1) (l.map fO++[.string s])):dO w base v (l++[s.data.toList]):=by
 unfold dO;rw[List.length_append,List.map_append];simpa[U2]using h
theorem lX.append {base:Nat}{l:List Nat}(h:w.ownsRow base 3 1 v (l.length+1) ((l.map fun n:Nat=>Value.int .i64 (n:Int))++[.int .i64 (n:Int)])):lX w base v (l++[n]):=by
 unfold lX;rw[List.length_append,List.map_append];simpa using h
theorem dO.grew {base:Nat}{l:List gQ}(h:dO w base u l)(g:kr w b v w' v')(hne:u.ownBlock=none∨u.ownBlock≠v.ownBlock):dO w' base u l:=g.keep h hne
theorem kg.alloc {base:Nat}{l:List (List gQ)}(h:kg w base v x l)(o:Obj):kg (w.alloc o) base v x l:=by
 obtain⟨vs,h1,h2,h3⟩:=h;exact⟨vs,h1.alloc o,fun i r hr=>let ⟨u,hu,hs⟩:=h2 i r hr;⟨u,hu,World.ownsRow.alloc hs o⟩,h3⟩
theorem kg.XO {base:Nat}{x':Value}{l:List (List gQ)}{r:List gQ}(h:kg w base v x l)(hx:dO w base x r)(g:kr w base x w' x'):kg w' base v x' l:=by
 obtain⟨vs,h1,h2,h3⟩:=h;refine⟨vs,g.keep h1 (nZ h1 hx (by decide)),fun i r hr=> ?_,fun u hu=> ?_⟩
 ·obtain⟨u,hu,hs⟩:=h2 i r hr;exact⟨u,hu,hs.grew g (h3 u (List.mem_of_getElem? hu))⟩
 ·rcases g.at_ with e|⟨k,e,hk⟩
  ·rw[e];exact h3 u hu
  ·rw[e];obtain⟨i,hi⟩:=List.mem_iff_getElem?.1 hu
   have hlen:vs.length=l.length:=by simpa using h1.1
   have hil:i<l.length:=by have:=(List.getElem?_eq_some_iff.1 hi).1;omega
   obtain⟨u',hu',hs⟩:=h2 i _ (List.getElem?_eq_getElem hil);rw[hi]at hu'
   obtain rfl:u=u':=by injection hu'
   exact Jv hs hk
theorem kg.push {base:Nat}{l:List (List gQ)}{r:List gQ}(h1:w.ownsRow base 61 1 v l.length vs)(h2:∀(i:Nat) (r:List gQ),l[i]?=some r→∃u,vs[i]?=some u∧dO w base u r)(hx:dO w base x r)(hown:w'.ownsRow base 61 1 v' (l.length+1) (vs++[x]))(g:kr w base v w' v'):
  kg (w'.alloc (.cells #[] 9)) base v' (.slice (some ⟨w'.heap.size,0,none⟩) 0 0) (l++[r]):=by
 have hlen:vs.length=l.length:=by simpa using h1.1
 have inner:∀(i:Nat) (q:List gQ),(l++[r])[i]?=some q→∃u,(vs++[x])[i]?=some u∧dO w' base u q:=by
  intro i q hq;by_cases hi:i<l.length
  ·rw[List.getElem?_append_left hi]at hq;obtain⟨u,hu,hs⟩:=h2 i q hq;exact⟨u,by rw[List.getElem?_append_left (by omega)];exact hu,hs.grew g (nZ hs h1 (by decide))⟩
  ·have hil:i=l.length:=by
    have:=(List.getElem?_eq_some_iff.1 hq).1;simp at this;omega
   subst hil;rw[List.getElem?_append_right (by omega)]at hq;simp at hq;subst hq;exact⟨x,by rw[List.getElem?_append_right (by omega)];simp[hlen],hx.grew g (nZ hx h1 (by decide))⟩
 refine⟨vs++[x], ?_,fun i q hq=> ?_,fun u hu=> ?_⟩
 ·rw[List.length_append];exact hown.alloc _
 ·obtain⟨u,hu,hs⟩:=inner i q hq;exact⟨u,hu,World.ownsRow.alloc hs _⟩
 ·obtain⟨i,hi⟩:=List.mem_iff_getElem?.1 hu
  have hil:i<(l++[r]).length:=by have:=(List.getElem?_eq_some_iff.1 hi).1;simp at this⊢;omega
  obtain⟨u',hu',hs⟩:=inner i _ (List.getElem?_eq_getElem hil);rw[hi]at hu'
  obtain rfl:u=u':=by injection hu'
  exact Jv hs (Nat.le_refl _)
theorem kg.begin_ {base:Nat}{l:List (List gQ)}(h:kg w base v x l):kg (w.alloc (.cells #[] 9)) base v (.slice (some ⟨w.heap.size,0,none⟩) 0 0) l:=by
 obtain⟨vs,h1,h2,h3⟩:=h
 have hlen:vs.length=l.length:=by simpa using h1.1
 refine⟨vs,h1.alloc _,fun i r hr=>let ⟨u,hu,hs⟩:=h2 i r hr;⟨u,hu,World.ownsRow.alloc hs _⟩,fun u hu=> ?_⟩;obtain⟨i,hi⟩:=List.mem_iff_getElem?.1 hu
 have hil:i<l.length:=by have:=(List.getElem?_eq_some_iff.1 hi).1;omega
 obtain⟨u',hu',hs⟩:=h2 i _ (List.getElem?_eq_getElem hil);rw[hi]at hu'
 obtain rfl:u=u':=by injection hu'
 exact Jv hs (Nat.le_refl _)
theorem dO.new {base:Nat}(hb:base≤w.heap.size):dO (w.alloc (.cells #[] 9)) base (.slice (some ⟨w.heap.size,0,none⟩) 0 0) []:=
 World.ownsRow_made w #[] 0 hb (by simp[maxLen]) (by simp)
theorem lX.grew {base:Nat}{l:List Nat}(h:lX w base u l)(g:kr w b v w' v')(hne:u.ownBlock=none∨u.ownBlock≠v.ownBlock):lX w' base u l:=g.keep h hne
theorem lX.alloc {base:Nat}{l:List Nat}(h:lX w base v l)(o:Obj):lX (w.alloc o) base v l:=World.ownsRow.alloc h o
theorem dO.alloc {base:Nat}{l:List gQ}(h:dO w base v l)(o:Obj):dO (w.alloc o) base v l:=World.ownsRow.alloc h o
structure uL (w0 w:World)(vn va vr:Value)(acc:List (Nat×List gQ))(row:List gQ):Prop where
 nums:lX w w0.heap.size vn (acc.map (·.1))
 rows:kg w w0.heap.size va vr (acc.map (·.2))
 row:dO w w0.heap.size vr row
 below:Below w0.heap.size w0 w
theorem uL.word {vr':Value}{acc:List (Nat×List gQ)}{row:List gQ}(h:uL w0 w vn va vr acc row)(hown:w'.ownsRow w0.heap.size 9 1 vr' (row.length+1) (row.map fO++[.string s]))(g:kr w w0.heap.size vr w' vr'):uL w0 w' vn va vr' acc (row++[s.data.toList]):=
 ⟨h.nums.grew g (nZ h.nums h.row (by decide)),h.rows.XO h.row g,dO.append hown,h.below.trans g.below⟩
theorem uL.push {va':Value}{acc:List (Nat×List gQ)}{row:List gQ}(hN:lX w w0.heap.size vn (acc.map (·.1)++[n]))(hR:dO w w0.heap.size vr row)(hB:Below w0.heap.size w0 w)(h1:w.ownsRow w0.heap.size 61 1 va (acc.map (·.2)).length vs)(h2:∀(i:Nat) (r:List gQ),(acc.map (·.2))[i]?=some r→∃u,vs[i]?=some u∧dO w w0.heap.size u r)(hown:w'.ownsRow w0.heap.size 61 1 va' ((acc.map (·.2)).length+1) (vs++[vr]))(g:kr w w0.heap.size va w' va'):
  uL w0 (w'.alloc (.cells #[] 9)) vn va' (.slice (some ⟨w'.heap.size,0,none⟩) 0 0) (acc++[(n,row)]) []:=by
 have hb:=hB.trans g.below;refine⟨?_, ?_,dO.new hb.size,hb.alloc hb.size _⟩
 ·rw[List.map_append];exact(hN.grew g (nZ hN h1 (by decide))).alloc _
 ·rw[List.map_append];exact kg.push h1 h2 hR hown g
theorem uL.skip {acc:List (Nat×List gQ)}{row:List gQ}(h:uL w0 w vn va vr acc row):
  uL w0 (w.alloc (.cells #[] 9)) vn va (.slice (some ⟨w.heap.size,0,none⟩) 0 0) acc []:=
 ⟨h.nums.alloc _,h.rows.begin_,dO.new h.below.size,h.below.alloc h.below.size _⟩
theorem uL.start (w:World):uL w (((w.alloc (.cells #[] 3)).alloc (.cells #[] 61)).alloc (.cells #[] 9)) (.slice (some ⟨w.heap.size,0,none⟩) 0 0) (.slice (some ⟨w.heap.size+1,0,none⟩) 0 0) (.slice (some ⟨w.heap.size+1+1,0,none⟩) 0 0) [] []:=by
 have h1:=(World.ownsRow_made (base:=w.heap.size) (e:=3) (size:=1) w #[] 0 (Nat.le_refl _) (by simp[maxLen]) (by simp));have h2:=(World.ownsRow_made (base:=w.heap.size) (e:=61) (size:=1) (w.alloc (.cells #[] 3)) #[] 0 (by simp) (by simp[maxLen]) (by simp));have h3:=(dO.new (w:=(w.alloc (.cells #[] 3)).alloc (.cells #[] 61)) (base:=w.heap.size) (by simp;omega));simp only[World.size_alloc]at h1 h2 h3;exact⟨(h1.alloc _).alloc _,⟨[],h2.alloc _,fun i r hr=>by simp at hr,fun u hu=>by cases hu⟩,h3,(((Below.refl _ _).alloc (Nat.le_refl _) _).alloc (by simp) _).alloc (by simp;omega) _⟩
def iP (L:List (Nat×List gQ))(vs:List Value):List Value:=(List.zipWith (fun(p:Nat×List gQ) u=> [Value.int .i64 (p.1:Int),u]) L vs).flatten
theorem FW (L:List (Nat×List gQ))(vs:List Value)(h:vs.length=L.length)(p:Nat×List gQ)(u:Value):iP (L++[p]) (vs++[u])=iP L vs++[.int .i64 (p.1:Int),u]:=by
 unfold iP;rw[List.zipWith_append (by omega)];simp
def dU (w:World)(base:Nat)(v:Value)(L:List (Nat×List gQ)):Prop:=
 ∃vs:List Value,w.ownsRow base 63 2 v L.length (iP L vs)∧vs.length=L.length∧∀(i:Nat) (p:Nat×List gQ),L[i]?=some p→∃u,vs[i]?=some u∧dO w base u p.2
theorem Ki {base:Nat}{xs:List Value}(h:w.ownsRow base e size v n xs)(hb:base'≤base):w.ownsRow base' e size v n xs:=by
 refine⟨h.1, ?_⟩;rcases h.2 with h2|⟨g,cap,cur,hv,hg,r⟩
 ·exact .inl h2
 ·exact .inr ⟨g,cap,cur,hv,by omega,r⟩
theorem dU.base {base:Nat}{L:List (Nat×List gQ)}(h:dU w base v L)(hb:base'≤base):dU w base' v L:=by
 obtain⟨vs,h1,h2,h3⟩:=h;exact⟨vs,Ki h1 hb,h2,fun i p hp=>let ⟨u,hu,hs⟩:=h3 i p hp;⟨u,hu,Ki hs hb⟩⟩
theorem dU.nil (w:World)(base:Nat):dU w base (.slice none 0 0) []:=⟨[],World.ownsRow_nil _ _ _ _,rfl,fun i p hp=>by simp at hp⟩
theorem dU.below {base B:Nat}{L:List (Nat×List gQ)}(h:dU w base v L)(hb:Below B w w')(hB:w.heap.size≤B):dU w' base v L:=by
 obtain⟨vs,h1,h2,h3⟩:=h;exact⟨vs,own_below h1 hb hB,h2,fun i p hp=>let ⟨u,hu,hs⟩:=h3 i p hp;⟨u,hu,own_below hs hb hB⟩⟩
theorem dU.push {base:Nat}{L:List (Nat×List gQ)}{r:List gQ}(h1:w.ownsRow base 63 2 v L.length (iP L vs))(h2:vs.length=L.length)(h3:∀(i:Nat) (p:Nat×List gQ),L[i]?=some p→∃u,vs[i]?=some u∧dO w base u p.2)(hu:dO w base u r)(hown:w'.ownsRow base 63 2 v' (L.length+1) (iP L vs++[.int .i64 (n:Int),u]))(g:kr w base v w' v'):dU w' base v' (L++[(n,r)]):=by
 refine⟨vs++[u], ?_,by simp[h2],fun i p hp=> ?_⟩
 ·rw[FW _ _ h2,List.length_append];exact hown
 ·by_cases hi:i<L.length
  ·rw[List.getElem?_append_left hi]at hp;obtain⟨x,hx,hs⟩:=h3 i p hp;exact⟨x,by rw[List.getElem?_append_left (by omega)];exact hx,hs.grew g (nZ hs h1 (by decide))⟩
  ·have hil:i=L.length:=by
    have:=(List.getElem?_eq_some_iff.1 hp).1;simp at this;omega
   subst hil;rw[List.getElem?_append_right (by omega)]at hp;simp at hp;subst hp;exact⟨u,by rw[List.getElem?_append_right (by omega)];simp[h2],hu.grew g (nZ hu h1 (by decide))⟩
theorem U3:(Tryz.prog.info? 63).map (fun i=>(i.zero,i.size,i.bytes))=some (some (.agg #[.int .i64 0,.slice none 0 0]),2,32):=by kernel_rfl
theorem Sy:wm Tryz.prog 58 63 2 32:=FV Tryz.underlying58 U3 rfl (by decide) (by decide)
end
section
variable {B b : Nat} {l : List UInt8} {w w' : World}
def jQ (B b:Nat)(l:List UInt8)(w:World):Prop:=Lib.IsBuilder 69 5 B b (Lib.byteCells l) w
theorem jQ.new (w:World):jQ w.heap.size w.heap.size [] (w.alloc (.cells #[.pointer none,.slice none 0 0] 69)):=Lib.fresh_isBuilder _ _ w
theorem jQ.parts (h:jQ B b l w):∃p,Lib.BuilderAt 69 5 B b p (Lib.byteCells l) w:=by
 rcases h with h|h
 ·exact⟨_,h⟩
 ·exact⟨_,h⟩
theorem EO {T e:Nat}{p:Value}{bs:List Value}(h:Lib.BuilderAt T e B b p bs w)(hb:Below w.heap.size w w'):Lib.BuilderAt T e B b p bs w':=by
 have hlt:=h.lt;obtain⟨hB,v,h1,h2,h3⟩:=h;exact⟨hB,v,(hb.block b hlt).trans h1,own_below h2 hb (Nat.le_refl _),h3⟩
theorem jQ.below (h:jQ B b l w)(hb:Below w.heap.size w w'):jQ B b l w':=by
 rcases h with h|h
 ·exact .inl (EO h hb)
 ·exact .inr (EO h hb)
theorem jQ.alloc (h:jQ B b l w)(o:Obj):jQ B b l (w.alloc o):=h.below ((Below.refl _ _).alloc (Nat.le_refl _) o)
theorem jQ.le (h:jQ B b l w):B≤w.heap.size:=by
 obtain⟨p,h1⟩:=h.parts;have:=h1.lt;have:=h1.1;omega
theorem CJ:(Tryz.prog.info? 69).map (·.size)=some 2:=by kernel_rfl
theorem Nf:liesAt Tryz.prog Tryz.prog.depth 69 (2/Tryz.prog.cellsOf 69) 0 69 1=true:=by kernel_rfl
theorem U4:(Tryz.prog.info? 5).map (fun i=>(i.zero,i.size,i.bytes))=some (some (.int .u8 0),1,1):=by kernel_rfl
theorem Jw (b:Nat)(w:World)(h0:w.cell? ⟨b,0,none⟩=some (.pointer (some ⟨b,0,none⟩))):
  Calls Tryz.prog 52 #[.pointer (some ⟨b,0,none⟩)] w fun e w'=>e= .returned (.tuple #[])∧w'=w:=by
 obtain⟨j,hj,_⟩:=Option.map_eq_some_iff.1 CJ;go_in;go_wp2;rw[Lib.run_neq_ptr_same w _ Tryz.underlying66 hj];go_wp2;go_end0;exact⟨rfl,rfl⟩
theorem G7 (b:Nat)(w:World)(h0:w.cell? ⟨b,0,none⟩=some (.pointer none))(hsh:w.shape? b=some (69,2))(hfz:w.frozen? ⟨b,0,none⟩=false):
  Calls Tryz.prog 52 #[.pointer (some ⟨b,0,none⟩)] w fun e w'=>e= .returned (.tuple #[])∧w'=w.setCell ⟨b,0,none⟩ (.pointer (some ⟨b,0,none⟩)):=by
 obtain⟨j,hj,hjs⟩:=Option.map_eq_some_iff.1 CJ;go_in;go_wp2;rw[Lib.run_to_unsafe w ⟨b,0,none⟩ Tryz.underlying66 Tryz.underlying164 hj (by rw[hjs];decide) hsh (Nat.zero_lt_succ 1)];simp only[Result.andThen];rw[Oper.upon_value];go_wp2;rw[run_callFunc_extern Tryz.func84 (by kernel_rfl) (by kernel_rfl) (by kernel_rfl) (e:=Extern.AbiNoEscape.same) (by kernel_rfl)];rw[Lib.run_noEscape];simp only[Result.andThen];rw[Oper.upon_value];go_wp2;rw[Lib.run_from_unsafe w ⟨b,0,none⟩ Tryz.underlying164 Tryz.underlying66 hj hsh Nf];simp only[Result.andThen];rw[Oper.upon_value];go_wp2;go_end0;exact⟨rfl,rfl⟩
theorem CK (B b:Nat)(bs:List Value)(w:World)(h:Lib.IsBuilder 69 5 B b bs w):
  Calls Tryz.prog 52 #[.pointer (some ⟨b,0,none⟩)] w fun e w'=>e= .returned (.tuple #[])∧(Lib.BuilderAt 69 5 B b (.pointer (some ⟨b,0,none⟩)) bs w'∧Below B w w'∧∀k,k≠b→w'.heap[k]?=w.heap[k]?):=by
 rcases h with h|h
 ·refine(G7 b w h.cell0 h.shape h.frozen0).mono ?_;rintro e w' ⟨rfl,rfl⟩;exact⟨rfl,h.used _,(Below.refl B w).setCell (p:=⟨b,0,none⟩) h.1 _,fun k hk=>Below.heap_setCell w ⟨b,0,none⟩ _ k hk⟩
 ·refine(Jw b w h.cell0).mono ?_;rintro e w' ⟨rfl,rfl⟩;exact⟨rfl,h,Below.refl B _,fun _ _=>rfl⟩
theorem Mf (B b:Nat)(l:List UInt8)(s:ByteArray)(w:World)(h:jQ B b l w)(hlen:l.length≤33554432)(hs:s.size≤33554432):
  Calls Tryz.prog 24 #[.pointer (some ⟨b,0,none⟩),.string s] w fun e w'=>e= .returned (.tuple #[.int .i64 s.size,.nilIface])∧(jQ B b (l++s.data.toList) w'∧Below B w w'∧∀(g:Nat) (t:TypeId) (cs:Array Value),aj w g t cs→t≠69 →t≠5 →aj w' g t cs):=by
 have hBw:=h.le
 have hT0:∃cs0,aj w b 69 cs0:=by
  rcases h with h|h
  ·obtain⟨_,v,hb,_⟩:=h;exact⟨_,hb⟩
  ·obtain⟨_,v,hb,_⟩:=h;exact⟨_,hb⟩
 obtain⟨i0,hi,hz0,hz1,hz2⟩:=info_parts U4;have hbl:=Lib.byteCells_length l
 have hbn:Lib.byteCells (l++s.data.toList)=Lib.byteCells l++Lib.strCells s:=by rw[Lib.byteCells_append,Lib.strCells_eq]
 unfold jQ at h;unfold jQ;rw[hbn];generalize Lib.byteCells l=bs at*
 have hlen':bs.length≤33554432:=by omega
 clear hbn hbl hlen;go_in;go_wp2_with (go_at_call 52;refine(CK B b bs _ h).mono ?_);rintro e w1 ⟨rfl,h1,hb1,hk1⟩;obtain⟨hB,v,hbk,hown,hne⟩:=h1
 have c0:w1.cell? ⟨b,0,none⟩=some (.pointer (some ⟨b,0,none⟩)):=by rw[Lib.cell_of_heap hbk];rfl
 have c1:w1.cell? ⟨b,1,none⟩=some v:=by rw[Lib.cell_of_heap hbk];rfl
 go_wp2_with (at_builtin;refine Lib.wpList_append_own_string _ rfl _ _ 67 9 rfl B 5 i0 Tryz.underlying67 Tryz.underlying9 hi hz0 hz1 hz2 _ _ _ rfl hown s rfl ?c3 ?c4 ?c5 ?_)
 case c3=>unfold maxLen;omega
 case c4=>omega
 case c5=>have:=hb1.size;omega
 intro v' w2 hown' hgrow _
 have hlt:b<w1.heap.size:=by
  rcases Nat.lt_or_ge b w1.heap.size with h'|h'
  ·exact h'
  ·simp[Array.getElem?_eq_none h']at hbk
 have hb2:w2.heap[b]?=some (.cells #[.pointer (some ⟨b,0,none⟩),v] 69 (0,0)):=by
  rw[hgrow.block b hlt (fun e=>hne e.symm)];exact hbk
 have d0:w2.cell? ⟨b,0,none⟩=some (.pointer (some ⟨b,0,none⟩)):=by rw[Lib.cell_of_heap hb2];rfl
 have d1:w2.cell? ⟨b,1,none⟩=some v:=by rw[Lib.cell_of_heap hb2];rfl
 have f1:w2.frozen? ⟨b,1,none⟩=false:=Lib.frozen_of_heap hb2 1
 obtain⟨ao,n',cap,rfl⟩:∃ao n' cap,v'= .slice ao n' cap:=by
  rcases hown'.2 with⟨hv,_⟩|⟨g,cap,cur,hv,_⟩
  ·exact⟨_,_,_,hv⟩
  ·exact⟨_,_,_,hv⟩
 go_wp2;go_ret2;refine⟨rfl,.inr ?_, ?_,fun g t cs hg ht1 ht2=> ?_⟩
 ·exact Lib.BuilderAt.put (T:=69) (e:=5) hB hb2 (bs':=bs++Lib.strCells s) (by simpa[Lib.strCells_length]using hown') (by decide)
 ·exact(hb1.grown hgrow (by have:=hb1.size;omega) (fun k hk=>(hown.lt k hk).1)).setCell (p:=⟨b,1,none⟩) hB _
 ·have hgb:g≠b:=by
   rintro rfl;obtain⟨cs0,h0⟩:=hT0;have h1:some (Obj.cells cs0 69 (0,0))=some (.cells cs t (0,0)):=h0.symm.trans hg
   injection h1 with h1
   injection h1 with _ h1 _
   exact ht1 h1.symm
  have hg1:aj w1 g t cs:=(hk1 g hgb).trans hg
  have hg2:aj w2 g t cs:=hg1.grown hgrow (fun e=>by
   rcases hown.2 with⟨rfl,_⟩|⟨g',cap',cur',rfl,_,hh,_⟩
   ·cases e
   ·have e':g=g':=by simpa[Value.ownBlock]using e
    subst e';have h1:some (Obj.cells cur' 5 (0,0))=some (.cells cs t (0,0)):=hh.symm.trans hg1
    injection h1 with h1
    injection h1 with _ h1 _
    exact ht2 h1.symm)
  exact(Below.heap_setCell w2 ⟨b,1,none⟩ _ g hgb).trans hg2
end
end Go.Proofs.YtgiaobmcbbfmnaaGreatDoor
