/- Short names for what is often said: the cells of a block, a row's items. No statement of the claim. -/
import Derived.Test.YtjfgpnapccdnlaaGreatDoorKit
import Derived.Test.YtjfgpnapccdnlaaGreatDoorProg
import Derived.KernelRfl
import Derived.Test.YtjfgpnapccdnlaaGreatDoorShelf
import Derived.Shelf.Strings.BuilderX
import Derived.Lib.Builder
import Derived.Lib.AppendStr
import Derived.WalkKit
import Derived.WalkSpells
import Derived.WalkLawsBesides
import Derived.Laws.Externs
import Derived.Outline
namespace Go.Proofs.YtjfgpnapccdnlaaGreatDoor
set_option maxRecDepth 100000
set_option maxHeartbeats 2000000
open Go.RowKit
section

theorem qJ {p q:Prop}(h:p)(k:q):p∧q:=⟨h,k⟩
theorem qd {p:Prop}(h:p):Hid p:=Lib.hid h
abbrev nI (n:Nat):Value:= .int .i64 (n:Int)
abbrev nU (n:Nat):Value:= .int .u64 (n:Int)
abbrev pQ (b:Nat):Value:= .pointer (some ⟨b,0,none⟩)
theorem dQ {p:World→Prop}{w:World}(t:TypeId)(cs:Array Value)(h:∀v,aj v w.heap.size t cs∧Below w.heap.size w v→p v):p (w.alloc (.cells cs t)):=h _ ⟨aj.new w t cs,(Below.refl w.heap.size w).alloc (Nat.le_refl _) (.cells cs t)⟩
theorem gl:(∀(l:List Value) (i:Nat),l.toArray[i]?=l[i]?)∧(∀(a:Value) (l:List Value),(a::l)[0]?=some a)∧(∀(a:Value) (l:List Value) (i:Nat),(a::l)[i+1]?=l[i]?):=⟨fun _ _=>List.getElem?_toArray ..,fun _ _=>List.getElem?_cons_zero,fun _ _ _=>List.getElem?_cons_succ⟩
theorem pt:(∀(a:Act) (i:Tmp) (v:Value),a.put (some i) v={a with tmps:=a.tmps.setIfInBounds i v})∧(∀(a:Act) (v:Value),a.put none v=a)∧(∀(l:List Value) (i:Nat) (v:Value),l.toArray.setIfInBounds i v=(l.set i v).toArray)∧(∀(a b:Value) (l:List Value),(a::l).set 0 b=b::l)∧(∀(a b:Value) (l:List Value) (i:Nat),(a::l).set (i+1) b=a::l.set i b):=⟨fun _ _ _=>rfl,fun _ _=>rfl,fun _ _ _=>List.setIfInBounds_toArray ..,fun _ _ _=>List.set_cons_zero,fun _ _ _ _=>List.set_cons_succ⟩
section
variable {w : World} {g : Nat} {t : TypeId} {a0 a1 a2 a3 a4 a5 a6 a7 a8 a9 zY CK a12 a13 a14 : Value} {l : List Value}
theorem qP (w:World)(t0:TypeId)(c0:Array Value)(t1:TypeId)(c1:Array Value):∃W,W=((w.alloc (.cells c0 t0)).alloc (.cells c1 t1))∧Below w.heap.size w W∧aj W (w.heap.size) t0 c0∧aj W (w.heap.size+1) t1 c1:=⟨_,rfl,(((Below.refl w.heap.size w).alloc (by simp<;>omega) (.cells c0 t0)).alloc (by simp<;>omega) (.cells c1 t1)),by simpa using((aj.new w t0 c0).alloc (.cells c1 t1)),by simpa using(aj.new (w.alloc (.cells c0 t0)) t1 c1)⟩
theorem qX3 (w:World)(t0:TypeId)(c0:Array Value)(t1:TypeId)(c1:Array Value)(t2:TypeId)(c2:Array Value):∃W,W=(((w.alloc (.cells c0 t0)).alloc (.cells c1 t1)).alloc (.cells c2 t2))∧Below w.heap.size w W∧aj W (w.heap.size) t0 c0∧aj W (w.heap.size+1) t1 c1∧aj W (w.heap.size+1+1) t2 c2:=⟨_,rfl,((((Below.refl w.heap.size w).alloc (by simp<;>omega) (.cells c0 t0)).alloc (by simp<;>omega) (.cells c1 t1)).alloc (by simp<;>omega) (.cells c2 t2)),by simpa using(((aj.new w t0 c0).alloc (.cells c1 t1)).alloc (.cells c2 t2)),by simpa using((aj.new (w.alloc (.cells c0 t0)) t1 c1).alloc (.cells c2 t2)),by simpa using(aj.new ((w.alloc (.cells c0 t0)).alloc (.cells c1 t1)) t2 c2)⟩
theorem qX4 (w:World)(t0:TypeId)(c0:Array Value)(t1:TypeId)(c1:Array Value)(t2:TypeId)(c2:Array Value)(t3:TypeId)(c3:Array Value):∃W,W=((((w.alloc (.cells c0 t0)).alloc (.cells c1 t1)).alloc (.cells c2 t2)).alloc (.cells c3 t3))∧Below w.heap.size w W∧aj W (w.heap.size) t0 c0∧aj W (w.heap.size+1) t1 c1∧aj W (w.heap.size+1+1) t2 c2∧aj W (w.heap.size+1+1+1) t3 c3:=⟨_,rfl,(((((Below.refl w.heap.size w).alloc (by simp<;>omega) (.cells c0 t0)).alloc (by simp<;>omega) (.cells c1 t1)).alloc (by simp<;>omega) (.cells c2 t2)).alloc (by simp<;>omega) (.cells c3 t3)),by simpa using((((aj.new w t0 c0).alloc (.cells c1 t1)).alloc (.cells c2 t2)).alloc (.cells c3 t3)),by simpa using(((aj.new (w.alloc (.cells c0 t0)) t1 c1).alloc (.cells c2 t2)).alloc (.cells c3 t3)),by simpa using((aj.new ((w.alloc (.cells c0 t0)).alloc (.cells c1 t1)) t2 c2).alloc (.cells c3 t3)),by simpa using(aj.new (((w.alloc (.cells c0 t0)).alloc (.cells c1 t1)).alloc (.cells c2 t2)) t3 c3)⟩
theorem qX5 (w:World)(t0:TypeId)(c0:Array Value)(t1:TypeId)(c1:Array Value)(t2:TypeId)(c2:Array Value)(t3:TypeId)(c3:Array Value)(t4:TypeId)(c4:Array Value):∃W,W=(((((w.alloc (.cells c0 t0)).alloc (.cells c1 t1)).alloc (.cells c2 t2)).alloc (.cells c3 t3)).alloc (.cells c4 t4))∧Below w.heap.size w W∧aj W (w.heap.size) t0 c0∧aj W (w.heap.size+1) t1 c1∧aj W (w.heap.size+1+1) t2 c2∧aj W (w.heap.size+1+1+1) t3 c3∧aj W (w.heap.size+1+1+1+1) t4 c4:=⟨_,rfl,((((((Below.refl w.heap.size w).alloc (by simp<;>omega) (.cells c0 t0)).alloc (by simp<;>omega) (.cells c1 t1)).alloc (by simp<;>omega) (.cells c2 t2)).alloc (by simp<;>omega) (.cells c3 t3)).alloc (by simp<;>omega) (.cells c4 t4)),by simpa using(((((aj.new w t0 c0).alloc (.cells c1 t1)).alloc (.cells c2 t2)).alloc (.cells c3 t3)).alloc (.cells c4 t4)),by simpa using((((aj.new (w.alloc (.cells c0 t0)) t1 c1).alloc (.cells c2 t2)).alloc (.cells c3 t3)).alloc (.cells c4 t4)),by simpa using(((aj.new ((w.alloc (.cells c0 t0)).alloc (.cells c1 t1)) t2 c2).alloc (.cells c3 t3)).alloc (.cells c4 t4)),by simpa using((aj.new (((w.alloc (.cells c0 t0)).alloc (.cells c1 t1)).alloc (.cells c2 t2)) t3 c3).alloc (.cells c4 t4)),by simpa using(aj.new ((((w.alloc (.cells c0 t0)).alloc (.cells c1 t1)).alloc (.cells c2 t2)).alloc (.cells c3 t3)) t4 c4)⟩
theorem aj.c2 (h:aj w g t (a0::a1::l).toArray):w.cell? ⟨g,0,none⟩=some a0∧w.cell? ⟨g,1,none⟩=some a1:=⟨h.cell 0,h.cell 1⟩
theorem aj.c3 (h:aj w g t (a0::a1::a2::l).toArray):w.cell? ⟨g,0,none⟩=some a0∧w.cell? ⟨g,1,none⟩=some a1∧w.cell? ⟨g,2,none⟩=some a2:=⟨h.cell 0,h.cell 1,h.cell 2⟩
theorem aj.c4 (h:aj w g t (a0::a1::a2::a3::l).toArray):w.cell? ⟨g,0,none⟩=some a0∧w.cell? ⟨g,1,none⟩=some a1∧w.cell? ⟨g,2,none⟩=some a2∧w.cell? ⟨g,3,none⟩=some a3:=⟨h.cell 0,h.cell 1,h.cell 2,h.cell 3⟩
theorem aj.c5 (h:aj w g t (a0::a1::a2::a3::a4::l).toArray):w.cell? ⟨g,0,none⟩=some a0∧w.cell? ⟨g,1,none⟩=some a1∧w.cell? ⟨g,2,none⟩=some a2∧w.cell? ⟨g,3,none⟩=some a3∧w.cell? ⟨g,4,none⟩=some a4:=⟨h.cell 0,h.cell 1,h.cell 2,h.cell 3,h.cell 4⟩
theorem aj.c6 (h:aj w g t (a0::a1::a2::a3::a4::a5::l).toArray):w.cell? ⟨g,0,none⟩=some a0∧w.cell? ⟨g,1,none⟩=some a1∧w.cell? ⟨g,2,none⟩=some a2∧w.cell? ⟨g,3,none⟩=some a3∧w.cell? ⟨g,4,none⟩=some a4∧w.cell? ⟨g,5,none⟩=some a5:=⟨h.cell 0,h.cell 1,h.cell 2,h.cell 3,h.cell 4,h.cell 5⟩
theorem aj.c7 (h:aj w g t (a0::a1::a2::a3::a4::a5::a6::l).toArray):w.cell? ⟨g,0,none⟩=some a0∧w.cell? ⟨g,1,none⟩=some a1∧w.cell? ⟨g,2,none⟩=some a2∧w.cell? ⟨g,3,none⟩=some a3∧w.cell? ⟨g,4,none⟩=some a4∧w.cell? ⟨g,5,none⟩=some a5∧w.cell? ⟨g,6,none⟩=some a6:=⟨h.cell 0,h.cell 1,h.cell 2,h.cell 3,h.cell 4,h.cell 5,h.cell 6⟩
theorem aj.c8 (h:aj w g t (a0::a1::a2::a3::a4::a5::a6::a7::l).toArray):w.cell? ⟨g,0,none⟩=some a0∧w.cell? ⟨g,1,none⟩=some a1∧w.cell? ⟨g,2,none⟩=some a2∧w.cell? ⟨g,3,none⟩=some a3∧w.cell? ⟨g,4,none⟩=some a4∧w.cell? ⟨g,5,none⟩=some a5∧w.cell? ⟨g,6,none⟩=some a6∧w.cell? ⟨g,7,none⟩=some a7:=⟨h.cell 0,h.cell 1,h.cell 2,h.cell 3,h.cell 4,h.cell 5,h.cell 6,h.cell 7⟩
theorem aj.c9 (h:aj w g t (a0::a1::a2::a3::a4::a5::a6::a7::a8::l).toArray):w.cell? ⟨g,0,none⟩=some a0∧w.cell? ⟨g,1,none⟩=some a1∧w.cell? ⟨g,2,none⟩=some a2∧w.cell? ⟨g,3,none⟩=some a3∧w.cell? ⟨g,4,none⟩=some a4∧w.cell? ⟨g,5,none⟩=some a5∧w.cell? ⟨g,6,none⟩=some a6∧w.cell? ⟨g,7,none⟩=some a7∧w.cell? ⟨g,8,none⟩=some a8:=⟨h.cell 0,h.cell 1,h.cell 2,h.cell 3,h.cell 4,h.cell 5,h.cell 6,h.cell 7,h.cell 8⟩
theorem aj.c11 (h:aj w g t (a0::a1::a2::a3::a4::a5::a6::a7::a8::a9::zY::l).toArray):w.cell? ⟨g,0,none⟩=some a0∧w.cell? ⟨g,1,none⟩=some a1∧w.cell? ⟨g,2,none⟩=some a2∧w.cell? ⟨g,3,none⟩=some a3∧w.cell? ⟨g,4,none⟩=some a4∧w.cell? ⟨g,5,none⟩=some a5∧w.cell? ⟨g,6,none⟩=some a6∧w.cell? ⟨g,7,none⟩=some a7∧w.cell? ⟨g,8,none⟩=some a8∧w.cell? ⟨g,9,none⟩=some a9∧w.cell? ⟨g,10,none⟩=some zY:=⟨h.cell 0,h.cell 1,h.cell 2,h.cell 3,h.cell 4,h.cell 5,h.cell 6,h.cell 7,h.cell 8,h.cell 9,h.cell 10⟩
theorem aj.c12 (h:aj w g t (a0::a1::a2::a3::a4::a5::a6::a7::a8::a9::zY::CK::l).toArray):w.cell? ⟨g,0,none⟩=some a0∧w.cell? ⟨g,1,none⟩=some a1∧w.cell? ⟨g,2,none⟩=some a2∧w.cell? ⟨g,3,none⟩=some a3∧w.cell? ⟨g,4,none⟩=some a4∧w.cell? ⟨g,5,none⟩=some a5∧w.cell? ⟨g,6,none⟩=some a6∧w.cell? ⟨g,7,none⟩=some a7∧w.cell? ⟨g,8,none⟩=some a8∧w.cell? ⟨g,9,none⟩=some a9∧w.cell? ⟨g,10,none⟩=some zY∧w.cell? ⟨g,11,none⟩=some CK:=⟨h.cell 0,h.cell 1,h.cell 2,h.cell 3,h.cell 4,h.cell 5,h.cell 6,h.cell 7,h.cell 8,h.cell 9,h.cell 10,h.cell 11⟩
theorem aj.c13 (h:aj w g t (a0::a1::a2::a3::a4::a5::a6::a7::a8::a9::zY::CK::a12::l).toArray):w.cell? ⟨g,0,none⟩=some a0∧w.cell? ⟨g,1,none⟩=some a1∧w.cell? ⟨g,2,none⟩=some a2∧w.cell? ⟨g,3,none⟩=some a3∧w.cell? ⟨g,4,none⟩=some a4∧w.cell? ⟨g,5,none⟩=some a5∧w.cell? ⟨g,6,none⟩=some a6∧w.cell? ⟨g,7,none⟩=some a7∧w.cell? ⟨g,8,none⟩=some a8∧w.cell? ⟨g,9,none⟩=some a9∧w.cell? ⟨g,10,none⟩=some zY∧w.cell? ⟨g,11,none⟩=some CK∧w.cell? ⟨g,12,none⟩=some a12:=⟨h.cell 0,h.cell 1,h.cell 2,h.cell 3,h.cell 4,h.cell 5,h.cell 6,h.cell 7,h.cell 8,h.cell 9,h.cell 10,h.cell 11,h.cell 12⟩
theorem aj.c14 (h:aj w g t (a0::a1::a2::a3::a4::a5::a6::a7::a8::a9::zY::CK::a12::a13::l).toArray):w.cell? ⟨g,0,none⟩=some a0∧w.cell? ⟨g,1,none⟩=some a1∧w.cell? ⟨g,2,none⟩=some a2∧w.cell? ⟨g,3,none⟩=some a3∧w.cell? ⟨g,4,none⟩=some a4∧w.cell? ⟨g,5,none⟩=some a5∧w.cell? ⟨g,6,none⟩=some a6∧w.cell? ⟨g,7,none⟩=some a7∧w.cell? ⟨g,8,none⟩=some a8∧w.cell? ⟨g,9,none⟩=some a9∧w.cell? ⟨g,10,none⟩=some zY∧w.cell? ⟨g,11,none⟩=some CK∧w.cell? ⟨g,12,none⟩=some a12∧w.cell? ⟨g,13,none⟩=some a13:=⟨h.cell 0,h.cell 1,h.cell 2,h.cell 3,h.cell 4,h.cell 5,h.cell 6,h.cell 7,h.cell 8,h.cell 9,h.cell 10,h.cell 11,h.cell 12,h.cell 13⟩
theorem aj.c15 (h:aj w g t (a0::a1::a2::a3::a4::a5::a6::a7::a8::a9::zY::CK::a12::a13::a14::l).toArray):w.cell? ⟨g,0,none⟩=some a0∧w.cell? ⟨g,1,none⟩=some a1∧w.cell? ⟨g,2,none⟩=some a2∧w.cell? ⟨g,3,none⟩=some a3∧w.cell? ⟨g,4,none⟩=some a4∧w.cell? ⟨g,5,none⟩=some a5∧w.cell? ⟨g,6,none⟩=some a6∧w.cell? ⟨g,7,none⟩=some a7∧w.cell? ⟨g,8,none⟩=some a8∧w.cell? ⟨g,9,none⟩=some a9∧w.cell? ⟨g,10,none⟩=some zY∧w.cell? ⟨g,11,none⟩=some CK∧w.cell? ⟨g,12,none⟩=some a12∧w.cell? ⟨g,13,none⟩=some a13∧w.cell? ⟨g,14,none⟩=some a14:=⟨h.cell 0,h.cell 1,h.cell 2,h.cell 3,h.cell 4,h.cell 5,h.cell 6,h.cell 7,h.cell 8,h.cell 9,h.cell 10,h.cell 11,h.cell 12,h.cell 13,h.cell 14⟩
variable {cs : Array Value}
theorem aj.f3 (h:aj w g t cs):w.frozen? ⟨g,0,none⟩=false∧w.frozen? ⟨g,1,none⟩=false∧w.frozen? ⟨g,2,none⟩=false:=⟨h.frozen 0,h.frozen 1,h.frozen 2⟩
theorem aj.f4 (h:aj w g t cs):w.frozen? ⟨g,0,none⟩=false∧w.frozen? ⟨g,1,none⟩=false∧w.frozen? ⟨g,2,none⟩=false∧w.frozen? ⟨g,3,none⟩=false:=⟨h.frozen 0,h.frozen 1,h.frozen 2,h.frozen 3⟩
theorem aj.f5 (h:aj w g t cs):w.frozen? ⟨g,0,none⟩=false∧w.frozen? ⟨g,1,none⟩=false∧w.frozen? ⟨g,2,none⟩=false∧w.frozen? ⟨g,3,none⟩=false∧w.frozen? ⟨g,4,none⟩=false:=⟨h.frozen 0,h.frozen 1,h.frozen 2,h.frozen 3,h.frozen 4⟩
theorem aj.f6 (h:aj w g t cs):w.frozen? ⟨g,0,none⟩=false∧w.frozen? ⟨g,1,none⟩=false∧w.frozen? ⟨g,2,none⟩=false∧w.frozen? ⟨g,3,none⟩=false∧w.frozen? ⟨g,4,none⟩=false∧w.frozen? ⟨g,5,none⟩=false:=⟨h.frozen 0,h.frozen 1,h.frozen 2,h.frozen 3,h.frozen 4,h.frozen 5⟩
theorem aj.f7 (h:aj w g t cs):w.frozen? ⟨g,0,none⟩=false∧w.frozen? ⟨g,1,none⟩=false∧w.frozen? ⟨g,2,none⟩=false∧w.frozen? ⟨g,3,none⟩=false∧w.frozen? ⟨g,4,none⟩=false∧w.frozen? ⟨g,5,none⟩=false∧w.frozen? ⟨g,6,none⟩=false:=⟨h.frozen 0,h.frozen 1,h.frozen 2,h.frozen 3,h.frozen 4,h.frozen 5,h.frozen 6⟩
theorem aj.f8 (h:aj w g t cs):w.frozen? ⟨g,0,none⟩=false∧w.frozen? ⟨g,1,none⟩=false∧w.frozen? ⟨g,2,none⟩=false∧w.frozen? ⟨g,3,none⟩=false∧w.frozen? ⟨g,4,none⟩=false∧w.frozen? ⟨g,5,none⟩=false∧w.frozen? ⟨g,6,none⟩=false∧w.frozen? ⟨g,7,none⟩=false:=⟨h.frozen 0,h.frozen 1,h.frozen 2,h.frozen 3,h.frozen 4,h.frozen 5,h.frozen 6,h.frozen 7⟩
theorem aj.f10 (h:aj w g t cs):w.frozen? ⟨g,0,none⟩=false∧w.frozen? ⟨g,1,none⟩=false∧w.frozen? ⟨g,2,none⟩=false∧w.frozen? ⟨g,3,none⟩=false∧w.frozen? ⟨g,4,none⟩=false∧w.frozen? ⟨g,5,none⟩=false∧w.frozen? ⟨g,6,none⟩=false∧w.frozen? ⟨g,7,none⟩=false∧w.frozen? ⟨g,8,none⟩=false∧w.frozen? ⟨g,9,none⟩=false:=⟨h.frozen 0,h.frozen 1,h.frozen 2,h.frozen 3,h.frozen 4,h.frozen 5,h.frozen 6,h.frozen 7,h.frozen 8,h.frozen 9⟩
theorem aj.f12 (h:aj w g t cs):w.frozen? ⟨g,0,none⟩=false∧w.frozen? ⟨g,1,none⟩=false∧w.frozen? ⟨g,2,none⟩=false∧w.frozen? ⟨g,3,none⟩=false∧w.frozen? ⟨g,4,none⟩=false∧w.frozen? ⟨g,5,none⟩=false∧w.frozen? ⟨g,6,none⟩=false∧w.frozen? ⟨g,7,none⟩=false∧w.frozen? ⟨g,8,none⟩=false∧w.frozen? ⟨g,9,none⟩=false∧w.frozen? ⟨g,10,none⟩=false∧w.frozen? ⟨g,11,none⟩=false:=⟨h.frozen 0,h.frozen 1,h.frozen 2,h.frozen 3,h.frozen 4,h.frozen 5,h.frozen 6,h.frozen 7,h.frozen 8,h.frozen 9,h.frozen 10,h.frozen 11⟩
theorem aj.f15 (h:aj w g t cs):w.frozen? ⟨g,0,none⟩=false∧w.frozen? ⟨g,1,none⟩=false∧w.frozen? ⟨g,2,none⟩=false∧w.frozen? ⟨g,3,none⟩=false∧w.frozen? ⟨g,4,none⟩=false∧w.frozen? ⟨g,5,none⟩=false∧w.frozen? ⟨g,6,none⟩=false∧w.frozen? ⟨g,7,none⟩=false∧w.frozen? ⟨g,8,none⟩=false∧w.frozen? ⟨g,9,none⟩=false∧w.frozen? ⟨g,10,none⟩=false∧w.frozen? ⟨g,11,none⟩=false∧w.frozen? ⟨g,12,none⟩=false∧w.frozen? ⟨g,13,none⟩=false∧w.frozen? ⟨g,14,none⟩=false:=⟨h.frozen 0,h.frozen 1,h.frozen 2,h.frozen 3,h.frozen 4,h.frozen 5,h.frozen 6,h.frozen 7,h.frozen 8,h.frozen 9,h.frozen 10,h.frozen 11,h.frozen 12,h.frozen 13,h.frozen 14⟩
end
end
section
variable {w w' w0 : World} {u v v' va vn vr x : Value} {s : ByteArray} {b base' e n size : Nat} {vs : List Value}
abbrev fI:=List UInt8
def dN (l:fI):Value:= .string ⟨l.toArray⟩
theorem Ky (s:ByteArray):dN s.data.toList= .string s:=by unfold dN;congr 1
theorem Vy:(Tryz.prog.info? 3).map (fun i=>(i.zero,i.size,i.bytes))=some (some (.int .i64 0),1,8):=by kernel_rfl
theorem Yy:(Tryz.prog.info? 9).map (fun i=>(i.zero,i.size,i.bytes))=some (some (.string ByteArray.empty),1,16):=by kernel_rfl
theorem Vz:(Tryz.prog.info? 61).map (fun i=>(i.zero,i.size,i.bytes))=some (some (.slice none 0 0),1,24):=by kernel_rfl
theorem iR:qc Tryz.prog 66 3 1 8:=xH Tryz.underlying66 Vy rfl (by decide) (by decide)
theorem iT:qc Tryz.prog 61 9 1 16:=xH Tryz.underlying61 Yy rfl (by decide) (by decide)
theorem iU:qc Tryz.prog 67 61 1 24:=xH Tryz.underlying67 Vz rfl (by decide) (by decide)
def jm (w:World)(base:Nat)(v:Value)(l:List Nat):Prop:=w.ownsRow base 3 1 v l.length (l.map fun n:Nat=>Value.int .i64 (n:Int))
def dH (w:World)(base:Nat)(v:Value)(l:List fI):Prop:=w.ownsRow base 9 1 v l.length (l.map dN)
def gy (w:World)(base:Nat)(v x:Value)(l:List (List fI)):Prop:=
 ∃vs:List Value,w.ownsRow base 61 1 v l.length vs∧(∀(i:Nat) (r:List fI),l[i]?=some r→∃u,vs[i]?=some u∧dH w base u r)∧∀u∈vs,u.ownBlock=none∨u.ownBlock≠x.ownBlock
theorem dH.append {base:Nat}{l:List fI}(h:w.ownsRow base 9 1 v (l.length+1) (l.map dN++[.string s])):dH w base v (l++[s.data.toList]):=by
 unfold dH;rw[List.length_append,List.map_append];simpa[Ky]using h
theorem jm.append {base:Nat}{l:List Nat}(h:w.ownsRow base 3 1 v (l.length+1) ((l.map fun n:Nat=>Value.int .i64 (n:Int))++[.int .i64 (n:Int)])):jm w base v (l++[n]):=by
 unfold jm;rw[List.length_append,List.map_append];simpa using h
theorem dH.grew {base:Nat}{l:List fI}(h:dH w base u l)(g:jL w b v w' v')(hne:u.ownBlock=none∨u.ownBlock≠v.ownBlock):dH w' base u l:=g.keep h hne
theorem gy.alloc {base:Nat}{l:List (List fI)}(h:gy w base v x l)(o:Obj):gy (w.alloc o) base v x l:=by
 obtain⟨vs,h1,h2,h3⟩:=h;exact⟨vs,h1.alloc o,fun i r hr=>let ⟨u,hu,hs⟩:=h2 i r hr;⟨u,hu,World.ownsRow.alloc hs o⟩,h3⟩
theorem gy.Yz {base:Nat}{x':Value}{l:List (List fI)}{r:List fI}(h:gy w base v x l)(hx:dH w base x r)(g:jL w base x w' x'):gy w' base v x' l:=by
 obtain⟨vs,h1,h2,h3⟩:=h;refine⟨vs,g.keep h1 (j4 h1 hx (by decide)),fun i r hr=> ?_,fun u hu=> ?_⟩
 ·obtain⟨u,hu,hs⟩:=h2 i r hr;exact⟨u,hu,hs.grew g (h3 u (List.mem_of_getElem? hu))⟩
 ·rcases g.at_ with e|⟨k,e,hk⟩
  ·rw[e];exact h3 u hu
  ·rw[e];obtain⟨i,hi⟩:=List.mem_iff_getElem?.1 hu
   have hlen:vs.length=l.length:=by simpa using h1.1
   have hil:i<l.length:=by have:=(List.getElem?_eq_some_iff.1 hi).1;omega
   obtain⟨u',hu',hs⟩:=h2 i _ (List.getElem?_eq_getElem hil);rw[hi]at hu'
   obtain rfl:u=u':=by injection hu'
   exact JF hs hk
theorem gy.Tk {base:Nat}{y y':Value}{l:List (List fI)}{ys:List Value}(h:gy w base v x l)(hy:w.ownsRow b e size y n ys)(he:e≠9)(he':e≠61)(g:jL w base y w' y'):gy w' base v x l:=by
 obtain⟨vs,h1,h2,h3⟩:=h;refine⟨vs,g.keep h1 (j4 h1 hy (Ne.symm he')),fun i r hr=> ?_,h3⟩;obtain⟨u,hu,hs⟩:=h2 i r hr;exact⟨u,hu,hs.grew g (j4 hs hy (Ne.symm he))⟩
theorem gy.push {base:Nat}{l:List (List fI)}{r:List fI}(h1:w.ownsRow base 61 1 v l.length vs)(h2:∀(i:Nat) (r:List fI),l[i]?=some r→∃u,vs[i]?=some u∧dH w base u r)(hx:dH w base x r)(hown:w'.ownsRow base 61 1 v' (l.length+1) (vs++[x]))(g:jL w base v w' v'):
  gy (w'.alloc (.cells #[] 9)) base v' (.slice (some ⟨w'.heap.size,0,none⟩) 0 0) (l++[r]):=by
 have hlen:vs.length=l.length:=by simpa using h1.1
 have inner:∀(i:Nat) (q:List fI),(l++[r])[i]?=some q→∃u,(vs++[x])[i]?=some u∧dH w' base u q:=by
  intro i q hq;by_cases hi:i<l.length
  ·rw[List.getElem?_append_left hi]at hq;obtain⟨u,hu,hs⟩:=h2 i q hq;exact⟨u,by rw[List.getElem?_append_left (by omega)];exact hu,hs.grew g (j4 hs h1 (by decide))⟩
  ·have hil:i=l.length:=by
    have:=(List.getElem?_eq_some_iff.1 hq).1;simp at this;omega
   subst hil;rw[List.getElem?_append_right (by omega)]at hq;simp at hq;subst hq;exact⟨x,by rw[List.getElem?_append_right (by omega)];simp[hlen],hx.grew g (j4 hx h1 (by decide))⟩
 refine⟨vs++[x], ?_,fun i q hq=> ?_,fun u hu=> ?_⟩
 ·rw[List.length_append];exact hown.alloc _
 ·obtain⟨u,hu,hs⟩:=inner i q hq;exact⟨u,hu,World.ownsRow.alloc hs _⟩
 ·obtain⟨i,hi⟩:=List.mem_iff_getElem?.1 hu
  have hil:i<(l++[r]).length:=by have:=(List.getElem?_eq_some_iff.1 hi).1;simp at this⊢;omega
  obtain⟨u',hu',hs⟩:=inner i _ (List.getElem?_eq_getElem hil);rw[hi]at hu'
  obtain rfl:u=u':=by injection hu'
  exact JF hs (Nat.le_refl _)
theorem gy.begin_ {base:Nat}{l:List (List fI)}(h:gy w base v x l):gy (w.alloc (.cells #[] 9)) base v (.slice (some ⟨w.heap.size,0,none⟩) 0 0) l:=by
 obtain⟨vs,h1,h2,h3⟩:=h
 have hlen:vs.length=l.length:=by simpa using h1.1
 refine⟨vs,h1.alloc _,fun i r hr=>let ⟨u,hu,hs⟩:=h2 i r hr;⟨u,hu,World.ownsRow.alloc hs _⟩,fun u hu=> ?_⟩;obtain⟨i,hi⟩:=List.mem_iff_getElem?.1 hu
 have hil:i<l.length:=by have:=(List.getElem?_eq_some_iff.1 hi).1;omega
 obtain⟨u',hu',hs⟩:=h2 i _ (List.getElem?_eq_getElem hil);rw[hi]at hu'
 obtain rfl:u=u':=by injection hu'
 exact JF hs (Nat.le_refl _)
theorem dH.new {base:Nat}(hb:base≤w.heap.size):dH (w.alloc (.cells #[] 9)) base (.slice (some ⟨w.heap.size,0,none⟩) 0 0) []:=
 World.ownsRow_made w #[] 0 hb (by simp[maxLen]) (by simp)
theorem jm.grew {base:Nat}{l:List Nat}(h:jm w base u l)(g:jL w b v w' v')(hne:u.ownBlock=none∨u.ownBlock≠v.ownBlock):jm w' base u l:=g.keep h hne
theorem jm.alloc {base:Nat}{l:List Nat}(h:jm w base v l)(o:Obj):jm (w.alloc o) base v l:=World.ownsRow.alloc h o
theorem dH.alloc {base:Nat}{l:List fI}(h:dH w base v l)(o:Obj):dH (w.alloc o) base v l:=World.ownsRow.alloc h o
structure fQ (w0 w:World)(vn va vr:Value)(acc:List (Nat×List fI))(row:List fI):Prop where
 nums:jm w w0.heap.size vn (acc.map (·.1))
 rows:gy w w0.heap.size va vr (acc.map (·.2))
 row:dH w w0.heap.size vr row
 below:Below w0.heap.size w0 w
theorem fQ.word {vr':Value}{acc:List (Nat×List fI)}{row:List fI}(h:fQ w0 w vn va vr acc row)(hown:w'.ownsRow w0.heap.size 9 1 vr' (row.length+1) (row.map dN++[.string s]))(g:jL w w0.heap.size vr w' vr'):fQ w0 w' vn va vr' acc (row++[s.data.toList]):=
 ⟨h.nums.grew g (j4 h.nums h.row (by decide)),h.rows.Yz h.row g,dH.append hown,h.below.trans g.below⟩
theorem fQ.num {vn':Value}{acc:List (Nat×List fI)}{row:List fI}(h:fQ w0 w vn va vr acc row)(hown:w'.ownsRow w0.heap.size 3 1 vn' ((acc.map (·.1)).length+1) (((acc.map (·.1)).map fun n:Nat=>Value.int .i64 (n:Int))++[.int .i64 (n:Int)]))(g:jL w w0.heap.size vn w' vn'):
  jm w' w0.heap.size vn' (acc.map (·.1)++[n])∧gy w' w0.heap.size va vr (acc.map (·.2))∧dH w' w0.heap.size vr row∧Below w0.heap.size w0 w':=
 ⟨jm.append hown,h.rows.Tk h.nums (by decide) (by decide) g,h.row.grew g (j4 h.row h.nums (by decide)),h.below.trans g.below⟩
theorem fQ.push {va':Value}{acc:List (Nat×List fI)}{row:List fI}(hN:jm w w0.heap.size vn (acc.map (·.1)++[n]))(hR:dH w w0.heap.size vr row)(hB:Below w0.heap.size w0 w)(h1:w.ownsRow w0.heap.size 61 1 va (acc.map (·.2)).length vs)(h2:∀(i:Nat) (r:List fI),(acc.map (·.2))[i]?=some r→∃u,vs[i]?=some u∧dH w w0.heap.size u r)(hown:w'.ownsRow w0.heap.size 61 1 va' ((acc.map (·.2)).length+1) (vs++[vr]))(g:jL w w0.heap.size va w' va'):
  fQ w0 (w'.alloc (.cells #[] 9)) vn va' (.slice (some ⟨w'.heap.size,0,none⟩) 0 0) (acc++[(n,row)]) []:=by
 have hb:=hB.trans g.below;refine⟨?_, ?_,dH.new hb.size,hb.alloc hb.size _⟩
 ·rw[List.map_append];exact(hN.grew g (j4 hN h1 (by decide))).alloc _
 ·rw[List.map_append];exact gy.push h1 h2 hR hown g
theorem fQ.skip {acc:List (Nat×List fI)}{row:List fI}(h:fQ w0 w vn va vr acc row):
  fQ w0 (w.alloc (.cells #[] 9)) vn va (.slice (some ⟨w.heap.size,0,none⟩) 0 0) acc []:=
 ⟨h.nums.alloc _,h.rows.begin_,dH.new h.below.size,h.below.alloc h.below.size _⟩
theorem fQ.start (w:World):fQ w (((w.alloc (.cells #[] 3)).alloc (.cells #[] 61)).alloc (.cells #[] 9)) (.slice (some ⟨w.heap.size,0,none⟩) 0 0) (.slice (some ⟨w.heap.size+1,0,none⟩) 0 0) (.slice (some ⟨w.heap.size+1+1,0,none⟩) 0 0) [] []:=by
 have h1:=(World.ownsRow_made (base:=w.heap.size) (e:=3) (size:=1) w #[] 0 (Nat.le_refl _) (by simp[maxLen]) (by simp));have h2:=(World.ownsRow_made (base:=w.heap.size) (e:=61) (size:=1) (w.alloc (.cells #[] 3)) #[] 0 (by simp) (by simp[maxLen]) (by simp));have h3:=(dH.new (w:=(w.alloc (.cells #[] 3)).alloc (.cells #[] 61)) (base:=w.heap.size) (by simp;omega));simp only[World.size_alloc]at h1 h2 h3;exact⟨(h1.alloc _).alloc _,⟨[],h2.alloc _,fun i r hr=>by simp at hr,fun u hu=>by cases hu⟩,h3,(((Below.refl _ _).alloc (Nat.le_refl _) _).alloc (by simp) _).alloc (by simp;omega) _⟩
def iV (L:List (Nat×List fI))(vs:List Value):List Value:=(List.zipWith (fun(p:Nat×List fI) u=> [Value.int .i64 (p.1:Int),u]) L vs).flatten
theorem Gd (L:List (Nat×List fI))(vs:List Value)(h:vs.length=L.length)(p:Nat×List fI)(u:Value):iV (L++[p]) (vs++[u])=iV L vs++[.int .i64 (p.1:Int),u]:=by
 unfold iV;rw[List.zipWith_append (by omega)];simp
def dU (w:World)(base:Nat)(v:Value)(L:List (Nat×List fI)):Prop:=
 ∃vs:List Value,w.ownsRow base 63 2 v L.length (iV L vs)∧vs.length=L.length∧∀(i:Nat) (p:Nat×List fI),L[i]?=some p→∃u,vs[i]?=some u∧dH w base u p.2
theorem Kz {base:Nat}{xs:List Value}(h:w.ownsRow base e size v n xs)(hb:base'≤base):w.ownsRow base' e size v n xs:=by
 refine⟨h.1, ?_⟩;rcases h.2 with h2|⟨g,cap,cur,hv,hg,r⟩
 ·exact .inl h2
 ·exact .inr ⟨g,cap,cur,hv,by omega,r⟩
theorem dU.base {base:Nat}{L:List (Nat×List fI)}(h:dU w base v L)(hb:base'≤base):dU w base' v L:=by
 obtain⟨vs,h1,h2,h3⟩:=h;exact⟨vs,Kz h1 hb,h2,fun i p hp=>let ⟨u,hu,hs⟩:=h3 i p hp;⟨u,hu,Kz hs hb⟩⟩
theorem dU.nil (w:World)(base:Nat):dU w base (.slice none 0 0) []:=⟨[],World.ownsRow_nil _ _ _ _,rfl,fun i p hp=>by simp at hp⟩
theorem dU.below {base B:Nat}{L:List (Nat×List fI)}(h:dU w base v L)(hb:Below B w w')(hB:w.heap.size≤B):dU w' base v L:=by
 obtain⟨vs,h1,h2,h3⟩:=h;exact⟨vs,own_below h1 hb hB,h2,fun i p hp=>let ⟨u,hu,hs⟩:=h3 i p hp;⟨u,hu,own_below hs hb hB⟩⟩
theorem dU.push {base:Nat}{L:List (Nat×List fI)}{r:List fI}(h1:w.ownsRow base 63 2 v L.length (iV L vs))(h2:vs.length=L.length)(h3:∀(i:Nat) (p:Nat×List fI),L[i]?=some p→∃u,vs[i]?=some u∧dH w base u p.2)(hu:dH w base u r)(hown:w'.ownsRow base 63 2 v' (L.length+1) (iV L vs++[.int .i64 (n:Int),u]))(g:jL w base v w' v'):dU w' base v' (L++[(n,r)]):=by
 refine⟨vs++[u], ?_,by simp[h2],fun i p hp=> ?_⟩
 ·rw[Gd _ _ h2,List.length_append];exact hown
 ·by_cases hi:i<L.length
  ·rw[List.getElem?_append_left hi]at hp;obtain⟨x,hx,hs⟩:=h3 i p hp;exact⟨x,by rw[List.getElem?_append_left (by omega)];exact hx,hs.grew g (j4 hs h1 (by decide))⟩
  ·have hil:i=L.length:=by
    have:=(List.getElem?_eq_some_iff.1 hp).1;simp at this;omega
   subst hil;rw[List.getElem?_append_right (by omega)]at hp;simp at hp;subst hp;exact⟨u,by rw[List.getElem?_append_right (by omega)];simp[h2],hu.grew g (j4 hu h1 (by decide))⟩
theorem VA:(Tryz.prog.info? 63).map (fun i=>(i.zero,i.size,i.bytes))=some (some (.agg #[.int .i64 0,.slice none 0 0]),2,32):=by kernel_rfl
theorem Tm:qc Tryz.prog 58 63 2 32:=xH Tryz.underlying58 VA rfl (by decide) (by decide)
end
section
variable {B b : Nat} {l : List UInt8} {w w' : World}
def jV (B b:Nat)(l:List UInt8)(w:World):Prop:=Lib.IsBuilder 53 5 B b (Lib.byteCells l) w
theorem jV.new (w:World):jV w.heap.size w.heap.size [] (w.alloc (.cells #[.pointer none,.slice none 0 0] 53)):=Lib.fresh_isBuilder _ _ w
theorem jV.parts (h:jV B b l w):∃p,Lib.BuilderAt 53 5 B b p (Lib.byteCells l) w:=by
 rcases h with h|h
 ·exact⟨_,h⟩
 ·exact⟨_,h⟩
theorem E8 {T e:Nat}{p:Value}{bs:List Value}(h:Lib.BuilderAt T e B b p bs w)(hb:Below w.heap.size w w'):Lib.BuilderAt T e B b p bs w':=by
 have hlt:=h.lt;obtain⟨hB,v,h1,h2,h3⟩:=h;exact⟨hB,v,(hb.block b hlt).trans h1,own_below h2 hb (Nat.le_refl _),h3⟩
theorem jV.below (h:jV B b l w)(hb:Below w.heap.size w w'):jV B b l w':=by
 rcases h with h|h
 ·exact .inl (E8 h hb)
 ·exact .inr (E8 h hb)
theorem jV.alloc (h:jV B b l w)(o:Obj):jV B b l (w.alloc o):=h.below ((Below.refl _ _).alloc (Nat.le_refl _) o)
theorem jV.le (h:jV B b l w):B≤w.heap.size:=by
 obtain⟨p,h1⟩:=h.parts;have:=h1.lt;have:=h1.1;omega
theorem CO:(Tryz.prog.info? 53).map (·.size)=some 2:=by kernel_rfl
theorem NI:liesAt Tryz.prog Tryz.prog.depth 53 (2/Tryz.prog.cellsOf 53) 0 53 1=true:=by kernel_rfl
theorem VB:(Tryz.prog.info? 5).map (fun i=>(i.zero,i.size,i.bytes))=some (some (.int .u8 0),1,1):=by kernel_rfl
theorem JG (b:Nat)(w:World)(h0:w.cell? ⟨b,0,none⟩=some (.pointer (some ⟨b,0,none⟩))):
  Calls Tryz.prog 42 #[.pointer (some ⟨b,0,none⟩)] w fun e w'=>e= .returned (.tuple #[])∧w'=w:=by
 obtain⟨j,hj,_⟩:=Option.map_eq_some_iff.1 CO;go_in;go_wp2;rw[Lib.run_neq_ptr_same w _ Tryz.underlying50 hj];go_wp2;go_end0;exact⟨rfl,rfl⟩
theorem Hr (b:Nat)(w:World)(h0:w.cell? ⟨b,0,none⟩=some (.pointer none))(hsh:w.shape? b=some (53,2))(hfz:w.frozen? ⟨b,0,none⟩=false):
  Calls Tryz.prog 42 #[.pointer (some ⟨b,0,none⟩)] w fun e w'=>e= .returned (.tuple #[])∧w'=w.setCell ⟨b,0,none⟩ (.pointer (some ⟨b,0,none⟩)):=by
 obtain⟨j,hj,hjs⟩:=Option.map_eq_some_iff.1 CO;go_in;go_wp2;rw[Lib.run_to_unsafe w ⟨b,0,none⟩ Tryz.underlying50 Tryz.underlying165 hj (by rw[hjs];decide) hsh (Nat.zero_lt_succ 1)];simp only[Result.andThen];rw[Oper.upon_value];go_wp2;rw[run_callFunc_extern Tryz.func77 (by kernel_rfl) (by kernel_rfl) (by kernel_rfl) (e:=Extern.AbiNoEscape.same) (by kernel_rfl)];rw[Lib.run_noEscape];simp only[Result.andThen];rw[Oper.upon_value];go_wp2;rw[Lib.run_from_unsafe w ⟨b,0,none⟩ Tryz.underlying165 Tryz.underlying50 hj hsh NI];simp only[Result.andThen];rw[Oper.upon_value];go_wp2;go_end0;exact⟨rfl,rfl⟩
theorem CP (B b:Nat)(bs:List Value)(w:World)(h:Lib.IsBuilder 53 5 B b bs w):
  Calls Tryz.prog 42 #[.pointer (some ⟨b,0,none⟩)] w fun e w'=>e= .returned (.tuple #[])∧(Lib.BuilderAt 53 5 B b (.pointer (some ⟨b,0,none⟩)) bs w'∧Below B w w'∧∀k,k≠b→w'.heap[k]?=w.heap[k]?):=by
 rcases h with h|h
 ·refine(Hr b w h.cell0 h.shape h.frozen0).mono ?_;rintro e w' ⟨rfl,rfl⟩;exact⟨rfl,h.used _,(Below.refl B w).setCell (p:=⟨b,0,none⟩) h.1 _,fun k hk=>Below.heap_setCell w ⟨b,0,none⟩ _ k hk⟩
 ·refine(JG b w h.cell0).mono ?_;rintro e w' ⟨rfl,rfl⟩;exact⟨rfl,h,Below.refl B _,fun _ _=>rfl⟩
theorem MI (B b:Nat)(l:List UInt8)(s:ByteArray)(w:World)(h:jV B b l w)(hlen:l.length≤33554432)(hs:s.size≤33554432):
  Calls Tryz.prog 16 #[.pointer (some ⟨b,0,none⟩),.string s] w fun e w'=>e= .returned (.tuple #[.int .i64 s.size,.nilIface])∧(jV B b (l++s.data.toList) w'∧Below B w w'∧∀(g:Nat) (t:TypeId) (cs:Array Value),aj w g t cs→t≠53 →t≠5 →aj w' g t cs):=by
 have hBw:=h.le
 have hT0:∃cs0,aj w b 53 cs0:=by
  rcases h with h|h
  ·obtain⟨_,v,hb,_⟩:=h;exact⟨_,hb⟩
  ·obtain⟨_,v,hb,_⟩:=h;exact⟨_,hb⟩
 obtain⟨i0,hi,hz0,hz1,hz2⟩:=info_parts VB;have hbl:=Lib.byteCells_length l
 have hbn:Lib.byteCells (l++s.data.toList)=Lib.byteCells l++Lib.strCells s:=by rw[Lib.byteCells_append,Lib.strCells_eq]
 unfold jV at h;unfold jV;rw[hbn];generalize Lib.byteCells l=bs at*
 have hlen':bs.length≤33554432:=by omega
 clear hbn hbl hlen;go_in;go_wp2_with (go_at_call 42;refine(CP B b bs _ h).mono ?_);rintro e w1 ⟨rfl,h1,hb1,hk1⟩;obtain⟨hB,v,hbk,hown,hne⟩:=h1
 have c0:w1.cell? ⟨b,0,none⟩=some (.pointer (some ⟨b,0,none⟩)):=by rw[Lib.cell_of_heap hbk];rfl
 have c1:w1.cell? ⟨b,1,none⟩=some v:=by rw[Lib.cell_of_heap hbk];rfl
 go_wp2_with (at_builtin;refine Lib.wpList_append_own_string _ rfl _ _ 51 9 rfl B 5 i0 Tryz.underlying51 Tryz.underlying9 hi hz0 hz1 hz2 _ _ _ rfl hown s rfl ?c3 ?c4 ?c5 ?_)
 case c3=>unfold maxLen;omega
 case c4=>omega
 case c5=>have:=hb1.size;omega
 intro v' w2 hown' hgrow _
 have hlt:b<w1.heap.size:=by
  rcases Nat.lt_or_ge b w1.heap.size with h'|h'
  ·exact h'
  ·simp[Array.getElem?_eq_none h']at hbk
 have hb2:w2.heap[b]?=some (.cells #[.pointer (some ⟨b,0,none⟩),v] 53 (0,0)):=by
  rw[hgrow.block b hlt (fun e=>hne e.symm)];exact hbk
 have d0:w2.cell? ⟨b,0,none⟩=some (.pointer (some ⟨b,0,none⟩)):=by rw[Lib.cell_of_heap hb2];rfl
 have d1:w2.cell? ⟨b,1,none⟩=some v:=by rw[Lib.cell_of_heap hb2];rfl
 have f1:w2.frozen? ⟨b,1,none⟩=false:=Lib.frozen_of_heap hb2 1
 obtain⟨ao,n',cap,rfl⟩:∃ao n' cap,v'= .slice ao n' cap:=by
  rcases hown'.2 with⟨hv,_⟩|⟨g,cap,cur,hv,_⟩
  ·exact⟨_,_,_,hv⟩
  ·exact⟨_,_,_,hv⟩
 go_wp2;go_ret2;refine⟨rfl,.inr ?_, ?_,fun g t cs hg ht1 ht2=> ?_⟩
 ·exact Lib.BuilderAt.put (T:=53) (e:=5) hB hb2 (bs':=bs++Lib.strCells s) (by simpa[Lib.strCells_length]using hown') (by decide)
 ·exact(hb1.grown hgrow (by have:=hb1.size;omega) (fun k hk=>(hown.lt k hk).1)).setCell (p:=⟨b,1,none⟩) hB _
 ·have hgb:g≠b:=by
   rintro rfl;obtain⟨cs0,h0⟩:=hT0;have h1:some (Obj.cells cs0 53 (0,0))=some (.cells cs t (0,0)):=h0.symm.trans hg
   injection h1 with h1
   injection h1 with _ h1 _
   exact ht1 h1.symm
  have hg1:aj w1 g t cs:=(hk1 g hgb).trans hg
  have hg2:aj w2 g t cs:=hg1.grown hgrow (fun e=>by
   rcases hown.2 with⟨rfl,_⟩|⟨g',cap',cur',rfl,_,hh,_⟩
   ·cases e
   ·have e':g=g':=by simpa[Value.ownBlock]using e
    subst e';have h1:some (Obj.cells cur' 5 (0,0))=some (.cells cs t (0,0)):=hh.symm.trans hg1
    injection h1 with h1
    injection h1 with _ h1 _
    exact ht2 h1.symm)
  exact(Below.heap_setCell w2 ⟨b,1,none⟩ _ g hgb).trans hg2
end
end Go.Proofs.YtjfgpnapccdnlaaGreatDoor
