/- The meter by its contracts. -/
import Derived.Test.YtbfpfgfgfjhpfaaGreatDoorCoB
import Derived.Test.YtbfpfgfgfjhpfaaGreatDoorSq
import Derived.StillTailTactics
import Derived.Laws.CopyOwn
import Derived.Laws.AppendOwn
import Derived.Shelf.Spec.SlicesInsert
import Derived.WalkKit
import Derived.WalkSpells
import Derived.WalkLawsBesides
import Derived.Maps.AppendAt
import Derived.Deep.AppendLies
import Derived.RegionTactic
import Derived.OwnWalk
namespace Go.Proofs.YtbfpfgfgfjhpfaaGreatDoor
set_option maxRecDepth 100000
set_option maxHeartbeats 4000000
open Go.RowKit dP zW
section
variable {w w' w1 w2 : World} {S T : List Nat} {A : Prop} {C : List Nat → Prop}
structure Mod (S:List Nat)(w w':World):Prop where
 os:w'.os=w.os
 tape:w'.tape=w.tape
 output:w'.output=w.output
 size:w.heap.size≤w'.heap.size
 block:∀k,k<w.heap.size→k∉S→w'.heap[k]?=w.heap[k]?
theorem Mod.refl (S:List Nat)(w:World):Mod S w w:=⟨rfl,rfl,rfl,Nat.le_refl _,fun _ _ _=>rfl⟩
theorem Mod.of_below (h:Below w.heap.size w w')(S:List Nat):Mod S w w':=⟨h.os,h.tape,h.output,h.size,fun k hk _=>h.block k hk⟩
theorem Mod.trans {U:List Nat}(h1:Mod S w w1)(h2:Mod T w1 w2)(hS:∀k,k∈S→k<w.heap.size→k∈U)(hT:∀k,k∈T→k<w.heap.size→k∈U):Mod U w w2:=
 ⟨h2.os.trans h1.os,h2.tape.trans h1.tape,h2.output.trans h1.output,Nat.le_trans h1.size h2.size,fun k hk hn=>
  (h2.block k (Nat.lt_of_lt_of_le hk h1.size) (fun h=>hn (hT k h hk))).trans (h1.block k hk (fun h=>hn (hS k h hk)))⟩
theorem Mod.then (h1:Mod S w w1)(h2:Mod S w1 w2):Mod S w w2:=h1.trans h2 (fun _ h _=>h) (fun _ h _=>h)
theorem Mod.more (h:Mod S w w')(hS:∀k,k∈S→k∈T):Mod T w w':=⟨h.os,h.tape,h.output,h.size,fun k hk hn=>h.block k hk (fun hh=>hn (hS k hh))⟩
theorem Mod.drewN (S:List Nat)(w:World)(n:Nat):Mod S w (w.drewN n):=⟨rfl,rfl,rfl,Nat.le_refl _,fun _ _ _=>rfl⟩
theorem Mod.alloc (h:Mod S w w')(o:Obj):Mod S w (w'.alloc o):=h.then (Mod.of_below ((Below.refl _ _).alloc (Nat.le_refl _) o) S)
theorem Mod.ak (h:Mod S w w'){b:Nat}(hb:b∈S∨w.heap.size≤b)(o:Nat)(u:Value):Mod S w (w'.setCell ⟨b,o,none⟩ u):=
 ⟨h.os,h.tape,h.output,by simpa using h.size,fun k hk hn=>by
  have hne:k≠b:=by rintro rfl;rcases hb with hb|hb;exact hn hb;omega
  exact(Below.heap_setCell w' ⟨b,o,none⟩ u k hne).trans (h.block k hk hn)⟩
theorem Mod.below {B:Nat}(h:Mod S w w')(hS:∀k,k∈S→B≤k)(hB:B≤w.heap.size):Below B w w':=
 ⟨h.os,h.tape,h.output,h.size,fun k hk=>h.block k (Nat.lt_of_lt_of_le hk hB) (fun hh=>absurd (hS k hh) (by omega))⟩
theorem Mod.Bo (h:Mod [] w w'):Below w.heap.size w w':=h.below (by simp) (Nat.le_refl _)
theorem aj.mod {g:Nat}{t:TypeId}{cs:Array Value}(h:aj w g t cs)(hm:Mod S w w')(hg:g∉S):aj w' g t cs:=(hm.block g h.lt hg).trans h
class Md (A:Prop)(w w':World)(B:outParam Prop)(C:outParam (List Nat→Prop)):Prop where
 md:∀{S:List Nat},A→Mod S w w'→C S→B
theorem mv {B:Prop}[i:Md A w w' B C](hm:Mod S w w')(h:Hid A)(hs:C S:=by simp<;>omega):Hid B:=qd (i.md h.out hm hs)
theorem nb {B:Prop}[i:Md A w w' B C](hb:Below w.heap.size w w')(h:Hid A)(hs:C []:=by simp):Hid B:=qd (i.md h.out (Mod.of_below hb []) hs)
instance {w w':World}{g:Nat}{t:TypeId}{cs:Array Value}:Md (aj w g t cs) w w' (aj w' g t cs) (fun S=>g∉S):=⟨fun h hm hs=>aj.mod h hm hs⟩
structure bE where
 p:Int
 v:Int
 u:Int
def oV (n:Int):Int:=min (max n 0) 1099511627776
def sJ (a b:Int):Int:=min (oV a+oV b) 1099511627776
def jA (a b:bE):bE:=⟨sJ a.p b.p,sJ a.v b.v,sJ a.u b.u⟩
def oF (c:bE):Value:= .agg #[.int .i64 c.p,.int .i64 c.v,.int .i64 c.u]
theorem Kl (n:Int):0≤oV n∧oV n≤1099511627776:=by unfold oV;omega
theorem Fe (n:Int)(w:World):Calls Tryz.prog 165 #[.int .i64 n] w fun e w'=>e= .returned (.int .i64 (oV n))∧w=w':=by
 have HC:=qd (show oV n=min (max n 0) 1099511627776 from rfl);go_in;go_wp2
 all_goals
  go_ret;exact⟨iG (by have hc:=HC.out;first|omega|(rw[hc];first|omega|(split at* <;>omega))),rfl⟩
theorem SS {P:Program}{f:FuncId}{args:Array Value}{v:Value}(h:Calls P f args w fun e w'=>e= .returned v∧w=w'):Calls P f args w fun e w'=>e= .returned v∧w'=w:=h.mono fun _ _ ⟨a,b⟩=>⟨a,b.symm⟩
theorem Vb (a b:Int)(w:World):Calls Tryz.prog 113 #[.int .i64 a,.int .i64 b] w fun e w'=>e= .returned (.int .i64 (sJ a b))∧w=w':=by
 have HA:=qd (Fe a w);have HB:=qd (Fe b w);have HC:=qd (show sJ a b=min (oV a+oV b) 1099511627776 from rfl);obtain⟨a0,a1⟩:=Kl a;obtain⟨b0,b1⟩:=Kl b;go_in;go_wp2_with fail;refine HA.out.mono ?_;rintro e w1 ⟨rfl,rfl⟩;go_wp2_with fail;refine HB.out.mono ?_;rintro e w1 ⟨rfl,rfl⟩;go_wp2
 all_goals
  go_ret;exact⟨iG (by have hc:=HC.out;first|omega|(rw[hc];omega)),rfl⟩
theorem Bp (c d:bE)(w:World):Calls Tryz.prog 77 #[oF c,oF d] w fun e w'=>e= .returned (oF (jA c d))∧Below w.heap.size w w':=by
 have HS:=qd (fun(a b:Int) (W:World)=>Vb a b W);unfold oF jA;generalize hp:sJ c.p d.p=sp;generalize hv:sJ c.v d.v=sv;generalize hu:sJ c.u d.u=su;have HP:=qd hp;have HV:=qd hv;have HU:=qd hu;clear hp hv hu;have hA:=aj.alloc (aj.alloc (aj.new w 109 #[.int .i64 c.p,.int .i64 c.v,.int .i64 c.u]) (.cells #[.int .i64 d.p,.int .i64 d.v,.int .i64 d.u] 109)) (.cells #[.int .i64 0,.int .i64 0,.int .i64 0] 109);have hB:=aj.alloc (aj.new (w.alloc (.cells #[.int .i64 c.p,.int .i64 c.v,.int .i64 c.u] 109)) 109 #[.int .i64 d.p,.int .i64 d.v,.int .i64 d.u]) (.cells #[.int .i64 0,.int .i64 0,.int .i64 0] 109);have hD:=aj.new ((w.alloc (.cells #[.int .i64 c.p,.int .i64 c.v,.int .i64 c.u] 109)).alloc (.cells #[.int .i64 d.p,.int .i64 d.v,.int .i64 d.u] 109)) 109 #[.int .i64 0,.int .i64 0,.int .i64 0];have hBel:Below w.heap.size w (((w.alloc (.cells #[.int .i64 c.p,.int .i64 c.v,.int .i64 c.u] 109)).alloc (.cells #[.int .i64 d.p,.int .i64 d.v,.int .i64 d.u] 109)).alloc (.cells #[.int .i64 0,.int .i64 0,.int .i64 0] 109)):=(((Below.refl _ w).alloc (Nat.le_refl _) _).alloc (by simp) _).alloc (by simp;omega) _;simp only[World.size_alloc]at hB hD
 obtain⟨W,hW⟩:∃W,W=((w.alloc (.cells #[.int .i64 c.p,.int .i64 c.v,.int .i64 c.u] 109)).alloc (.cells #[.int .i64 d.p,.int .i64 d.v,.int .i64 d.u] 109)).alloc (.cells #[.int .i64 0,.int .i64 0,.int .i64 0] 109):=⟨_,rfl⟩;rw[←hW]at hA hB hD hBel;have a0:=hA.cell 0;have a1:=hA.cell 1;have a2:=hA.cell 2;have b0:=hB.cell 0;have b1:=hB.cell 1;have b2:=hB.cell 2;have d0:=hD.cell 0;have d1:=hD.cell 1;have d2:=hD.cell 2;simp only[gl]at a0 a1 a2 b0 b1 b2 d0 d1 d2;obtain⟨f0,f1,f2⟩:=hD.f3;have HW:=qd hW;clear hW hA hB hD;go_in;go_upto_region 1 with fail;rw[←HW.out];go_still_tail 15,(by kernel_rfl)
 still_call (SS (HS.out _ _ _))
 repeat still_step
 still_call (SS (HS.out _ _ _))
 repeat still_step
 still_call (SS (HS.out _ _ _))
 refine wpStill_nil ?_;change wpList _ _ _ _ _ W.drew;go_wp2;rw[HP.out,HV.out,HU.out];refine bodyPost_ret (v:= .agg #[.int .i64 sp,.int .i64 sv,.int .i64 su]) (by simp[results,Tryz.results77,go_sem,d0,d1,d2]) rfl ⟨rfl, ?_⟩;exact(((hBel.setCell (p:=⟨w.heap.size+1+1,0,none⟩) (by simp;omega) _).setCell (p:=⟨w.heap.size+1+1,1,none⟩) (by simp;omega) _).setCell (p:=⟨w.heap.size+1+1,2,none⟩) (by simp;omega) _).drew
end
theorem qM {A B:Prop}{C:List Nat→Prop}{S:List Nat}{w w':World}[i:Md A w w' B C](hm:Mod S w w')(h:Hid A)(hs:C S:=by simp<;>omega):Hid B:=Lib.hid (i.md h.out hm hs)
theorem qB {A B:Prop}{C:List Nat→Prop}{w w':World}[i:Md A w w' B C](hb:Below w.heap.size w w')(h:Hid A)(hs:C []:=by simp):Hid B:=Lib.hid (i.md h.out (Mod.of_below hb []) hs)
theorem aan {p:World→Prop}{w w1:World}{b:Nat}{S:List Nat}{t:TypeId}{cs:Array Value}(h:aj w b t cs)(hm:Mod S w1 w)(h2:∀v,aj v b t cs∧Mod S w1 v→p v):p w:=h2 w ⟨h,hm⟩
theorem qT {S:List Nat}{w w1 w2:World}(h:Hid (Mod S w w1))(hb:Below w1.heap.size w1 w2):Hid (Mod S w w2):=Lib.hid (h.out.then (Mod.of_below hb _))
theorem qU {T U:List Nat}{w w1 w2:World}(h1:Hid (Mod U w w1))(h2:Mod T w1 w2)(hT:∀k,k∈T→k<w.heap.size→k∈U:=by intro k hk hl;simp at hk⊢<;>omega):Hid (Mod U w w2):=Lib.hid (h1.out.trans h2 (fun _ hh _=>hh) hT)
theorem Hy {p:World→Prop}{w:World}{b:Nat}{t:TypeId}{cs:Array Value}{i0:Nat}{v0:Value}(h:aj w b t cs)(k:∀v,aj v b t (cs.setIfInBounds i0 v0)∧Mod [b] w v→p v):p (w.setCell ⟨b,i0,none⟩ v0):=k _ ⟨(h.ak i0 v0),((Mod.refl [b] w).ak (.inl (by simp)) i0 v0)⟩
theorem qS2 {p:World→Prop}{w:World}{b:Nat}{t:TypeId}{cs:Array Value}{i0 i1:Nat}{v0 v1:Value}(h:aj w b t cs)(k:∀v,aj v b t ((cs.setIfInBounds i0 v0).setIfInBounds i1 v1)∧Mod [b] w v→p v):p ((w.setCell ⟨b,i0,none⟩ v0).setCell ⟨b,i1,none⟩ v1):=k _ ⟨((h.ak i0 v0).ak i1 v1),(((Mod.refl [b] w).ak (.inl (by simp)) i0 v0).ak (.inl (by simp)) i1 v1)⟩
theorem Fg {p:World→Prop}{w:World}{b:Nat}{t:TypeId}{cs:Array Value}{i0 i1 i2:Nat}{v0 v1 v2:Value}(h:aj w b t cs)(k:∀v,aj v b t (((cs.setIfInBounds i0 v0).setIfInBounds i1 v1).setIfInBounds i2 v2)∧Mod [b] w v→p v):p (((w.setCell ⟨b,i0,none⟩ v0).setCell ⟨b,i1,none⟩ v1).setCell ⟨b,i2,none⟩ v2):=k _ ⟨(((h.ak i0 v0).ak i1 v1).ak i2 v2),((((Mod.refl [b] w).ak (.inl (by simp)) i0 v0).ak (.inl (by simp)) i1 v1).ak (.inl (by simp)) i2 v2)⟩
theorem Ag {p:World→Prop}{w:World}{b:Nat}{t:TypeId}{cs:Array Value}{i0 i1 i2 i3 i4 i5 i6:Nat}{v0 v1 v2 v3 v4 v5 v6:Value}(h:aj w b t cs)(k:∀v,aj v b t (((((((cs.setIfInBounds i0 v0).setIfInBounds i1 v1).setIfInBounds i2 v2).setIfInBounds i3 v3).setIfInBounds i4 v4).setIfInBounds i5 v5).setIfInBounds i6 v6)∧Mod [b] w v→p v):p (((((((w.setCell ⟨b,i0,none⟩ v0).setCell ⟨b,i1,none⟩ v1).setCell ⟨b,i2,none⟩ v2).setCell ⟨b,i3,none⟩ v3).setCell ⟨b,i4,none⟩ v4).setCell ⟨b,i5,none⟩ v5).setCell ⟨b,i6,none⟩ v6):=k _ ⟨(((((((h.ak i0 v0).ak i1 v1).ak i2 v2).ak i3 v3).ak i4 v4).ak i5 v5).ak i6 v6),((((((((Mod.refl [b] w).ak (.inl (by simp)) i0 v0).ak (.inl (by simp)) i1 v1).ak (.inl (by simp)) i2 v2).ak (.inl (by simp)) i3 v3).ak (.inl (by simp)) i4 v4).ak (.inl (by simp)) i5 v5).ak (.inl (by simp)) i6 v6)⟩
theorem Mod.sl {b:Nat}{S:List Nat}{w w':World}(h:Mod (b::S) w w')(o:Nat)(u:Value):Mod (b::S) w (w'.setCell ⟨b,o,none⟩ u):=h.ak (.inl (by simp)) o u
section
variable {d n o : Nat}
theorem yT {P:Program}(w:World)(dT sT ty elem:TypeId)(sz g o dLen dCap:Nat)(a:Addr)(sLen sCap:Nat)(cur:Array Value)(t:TypeId)(cs:List Value)(hu:P.underlying dT=some (.slice elem))(hs:(P.info? elem).map (·.size)=some sz)(hg:w.heap[g]?=some (.cells cur t (0,0)))(hn:cs.length=Nat.min sLen dLen*sz)(hsrc:∀j v,cs[j]?=some v→w.cell? (a.add j)=some v)(hfit:o+cs.length≤cur.size)(h1:∀v∈cs,v.oneCell'=true):
  (Builtin.copy_ #[dT,sT] ty #[.slice (some ⟨g,o,none⟩) dLen dCap,.slice (some a) sLen sCap]).run P w=
   .ok (goInt (Nat.min sLen dLen)) (w.setRow g (splice cur.toList o cs).toArray):=by
 have hl:=run_loadCells_list (P:=P) w a cs hsrc;have hst:=run_storeCells_at P g o t cs 0 cur w hg (by simpa using hfit) h1
 cases hq:P.info? elem with
 |none=>simp[hq]at hs
 |some i=>
  have hi:i.size=sz:=by simpa[hq]using hs
  simp[Builtin.copy_,run_underlying hu,Builtin.lenOf,Builtin.firstCells,sizeOf,typeInfo,hq,hi,←hn,hl,hst,splice]
section
variable {α : Type} {L cs xs vs : List α}
theorem nH (ho:o≤L.length)(j:Nat):(splice L o cs)[j]?=if j<o then L[j]? else if j<o+cs.length then cs[j-o]? else L[j]?:=by
 unfold splice;by_cases h1:j<o
 ·rw[if_pos h1,List.getElem?_append_left (by rw[List.length_take];omega),List.getElem?_take_of_lt h1]
 ·rw[if_neg h1,List.getElem?_append_right (by rw[List.length_take];omega),List.length_take,Nat.min_eq_left ho];by_cases h2:j<o+cs.length
  ·rw[if_pos h2,List.getElem?_append_left (by omega)]
  ·rw[if_neg h2,List.getElem?_append_right (by omega),List.getElem?_drop];congr 1;omega
theorem lJ (h:o+cs.length≤L.length):(splice L o cs).length=L.length:=length_splice L o cs h
theorem Vd (hx:L.take n=xs)(hd:d≤n)(hn:n+vs.length≤L.length):(splice (splice L (d+vs.length) (xs.drop d)) d vs).take (n+vs.length)=xs.take d++(vs++xs.drop d):=by
 have hl:xs.length=n:=by rw[←hx,List.length_take];omega
 have h1:(splice L (d+vs.length) (xs.drop d)).length=L.length:=lJ (by rw[List.length_drop];omega);apply List.ext_getElem?;intro j;by_cases hj:j<n+vs.length
 ·rw[List.getElem?_take_of_lt hj,nH (by omega)];by_cases j1:j<d
  ·rw[if_pos j1,nH (by omega),if_pos (by omega),List.getElem?_append_left (by rw[List.length_take];omega),List.getElem?_take_of_lt j1,←hx,List.getElem?_take_of_lt (by omega)]
  ·rw[if_neg j1,List.getElem?_append_right (by rw[List.length_take];omega),List.length_take,Nat.min_eq_left (by omega)];by_cases j2:j<d+vs.length
   ·rw[if_pos j2,List.getElem?_append_left (by omega)]
   ·rw[if_neg j2,nH (by omega),if_neg j2,if_pos (by rw[List.length_drop];omega),List.getElem?_append_right (by omega)];congr 1;omega
 ·rw[List.getElem?_eq_none (by rw[List.length_take];omega),List.getElem?_eq_none (by simp;omega)]
theorem Yj {Z:List α}(hl:xs.length=n)(hd:d≤n)(hZ:n+vs.length-d≤Z.length):(splice (splice (xs.take d++Z) d vs) (d+vs.length) (xs.drop d)).take (n+vs.length)=xs.take d++(vs++xs.drop d):=by
 have h0:(xs.take d++Z).length=d+Z.length:=by rw[List.length_append,List.length_take];omega
 have h1:(splice (xs.take d++Z) d vs).length=d+Z.length:=by rw[lJ (by omega),h0]
 apply List.ext_getElem?;intro j;by_cases hj:j<n+vs.length
 ·rw[List.getElem?_take_of_lt hj,nH (by omega)];by_cases j1:j<d
  ·rw[if_pos (by omega),nH (by omega),if_pos j1,List.getElem?_append_left (by rw[List.length_take];omega),List.getElem?_append_left (by rw[List.length_take];omega)]
  ·rw[List.getElem?_append_right (by rw[List.length_take];omega),List.length_take,Nat.min_eq_left (by omega)];by_cases j2:j<d+vs.length
   ·rw[if_pos j2,nH (by omega),if_neg j1,if_pos j2,List.getElem?_append_left (by omega)]
   ·rw[if_neg j2,if_pos (by rw[List.length_drop];omega),List.getElem?_append_right (by omega)];congr 1;omega
 ·rw[List.getElem?_eq_none (by rw[List.length_take];omega),List.getElem?_eq_none (by simp;omega)]
end
theorem Bq {w:World}{base g cap sz:Nat}{t:TypeId}{cur cur':Array Value}{xs:List Value}(hg:w.heap[g]?=some (.cells cur t (0,0)))(hb:base≤g)(hc:n≤cap)(hm:cap≤maxLen)(hs:cur'.size=cap*sz)(hx:cur'.toList.take (n*sz)=xs):
  (w.setRow g cur').ownsRow base t sz (.slice (some ⟨g,0,none⟩) n cap) n xs∧Mod [g] w (w.setRow g cur'):=by
 have hlt:g<w.heap.size:=(Array.getElem?_eq_some_iff.1 hg).1;refine⟨⟨?_,.inr ⟨g,cap,cur',rfl,hb,setRow_heap w g cur cur' t (0,0) hg,hc,hm,hs,hx⟩⟩,rfl,rfl,rfl,by simp[World.setRow],fun k hk hne=>setRow_other w g k cur' (fun e=>hne (by simp[e]))⟩;rw[←hx,List.length_take,Array.length_toList,hs];have:=Nat.mul_le_mul_right sz hc;omega
end
section
section
variable {w w' : World} {g : Nat} {t : TypeId} {cs : Array Value}
theorem aj.Br (h:aj w g t cs){i:Nat}{u:Value}(hu:cs[i]?=some u):w.setCell ⟨g,i,none⟩ u=w:=by
  have e:(w.setCell ⟨g,i,none⟩ u).heap=w.heap:=by
    apply Array.ext_getElem?;intro j;by_cases hj:j=g
    · subst hj;have h1:=h.ak i u;unfold aj at h1 h;rw[h1,h]
      have:cs.setIfInBounds i u=cs:=by
        apply Array.ext_getElem?;intro k;rw[Array.getElem?_setIfInBounds];split
        · next hk => subst hk; split
                     · exact hu.symm
                     · next hlt=>rw[Array.getElem?_eq_none (by omega)]at hu;cases hu
        · rfl
      rw[this]
    · exact Below.heap_setCell w _ u j hj
  cases w;simp only[World.setCell]at e⊢;rw[e]
end
/-- 'x[i:]' -/
theorem SV {P:Program}{t e:TypeId}{size:Nat}(hu:P.underlying t=some (.slice e))(hs:∀w,(sizeOf e).run P w= .ok size w)(b off n c i:Nat)(hi:i≤n)(W:World):
    (Instr.slice t (.slice (some ⟨b,off,none⟩) n c) (some (.int .i64 (i:Int))) none none).run P W= .ok (.slice (if c=i then some ⟨b,off,none⟩else some ⟨b,off+i*size,none⟩) (n-i) (c-i)) W:=by
  simp[Instr.slice,run_underlying hu,go_sem,hs];intro h;omega
/-- 'x[:j]' -/
theorem Nq {P:Program}{t e:TypeId}{size:Nat}(hu:P.underlying t=some (.slice e))(hs:∀w,(sizeOf e).run P w= .ok size w)(A:Option Addr)(n c j:Nat)(hj:j≤c)(W:World):
    (Instr.slice t (.slice A n c) none (some (.int .i64 (j:Int))) none).run P W= .ok (.slice A j c) W:=by
  cases A<;>simp[Instr.slice,run_underlying hu,go_sem,hs]
  all_goals (intro h;omega)
end
section
variable {o : Oper} {a : Act} {K : Act → World → Prop} {Q : Exit → Act → World → Prop} {ops : Array Oper} {rest : List Oper} {E : Prop} {B base bytes c m n size : Nat} {e t : TypeId} {v : Value} {news xs : List Value} {s x : Operand} {A : Option Addr}
section
variable {P : Program} (w : World)
theorem EY (base:Nat)(t ty e:TypeId)(i:TypeInfo)(size:Nat)(ht:P.underlying t=some (.slice e))(hi:P.info? e=some i)(v:Value)(n:Nat)(xs:List Value)(hown:w.ownsRow base e size v n xs)(c:Nat):(Builtin.append_ #[t,t] ty #[v,.slice none 0 c]).run P w= .ok v w:=by
 rcases hown.2 with⟨rfl,rfl⟩|⟨g,cap,cur,rfl,_,_,hnc,_⟩
 ·simp[Builtin.append_,run_underlying ht,sizeOf,typeInfo,hi,Builtin.lenOf,Builtin.firstCells]
 ·simp[Builtin.append_,run_underlying ht,sizeOf,typeInfo,hi,Builtin.lenOf,Builtin.firstCells,hnc,storeCells]
theorem Jv (base:Nat)(t ty e:TypeId)(i:TypeInfo)(z:Value)(size bytes:Nat)(ht:P.underlying t=some (.slice e))(hi:P.info? e=some i)(hz:i.zero=some z)(hsize:i.size=size)(hby:i.bytes=bytes)(hzs:z.cells.size=size)(hsz:0<size)(v:Value)(n:Nat)(xs:List Value)(hown:w.ownsRow base e size v n xs)(B:Nat)(A:Option Addr)(m c:Nat)(news:List Value)(hr:Reads w B size A m news)(h1:∀u∈news,u.oneCell'=true)(h63:n+m≤maxLen)(hbytes:(n+m)*bytes≤140737488355328)(hbase:base≤w.heap.size):
  ∃v' w',(Builtin.append_ #[t,t] ty #[v,.slice A m c]).run P w= .ok v' w'∧w'.ownsRow base e size v' (n+m) (xs++news)∧w.grownBy w' v.ownBlock∧
   (v'.ownBlock=v.ownBlock∨v'.ownBlock=some w.heap.size):=by
 rcases A with _|ad
 ·have hm:m=0:=by
   rcases Nat.eq_zero_or_pos m with h0|h0
   ·exact h0
   ·obtain⟨b,off,h,_⟩:=hr.2 h0;cases h
  subst hm;have hn:news=[]:=List.eq_nil_of_length_eq_zero (by simpa using hr.1);subst hn;exact⟨v,w,EY w base t ty e i size ht hi v n xs hown c,by simpa using hown,World.grownBy.refl w _,.inl rfl⟩
 ·have hcells:∀j u,news[j]?=some u→w.cell? (ad.add j)=some u:=by
   intro j u hu;rcases Nat.eq_zero_or_pos m with h0|h0
   ·subst h0;have hn:news=[]:=List.eq_nil_of_length_eq_zero (by simpa using hr.1);subst hn;simp at hu
   ·obtain⟨b,off,h,_,hc⟩:=hr.2 h0
    injection h with h
    subst h;rw[show(⟨b,off,none⟩:Addr).add j=⟨b,off+j,none⟩from by unfold Addr.add;split<;>simp_all];exact hc j u hu
  obtain⟨v',w',hrun,h2,h3,_,h5⟩:=run_append_own_at (P:=P) w base t ty e i z size bytes ht hi hz hsize hby hzs hsz v n xs hown ad m c news hr.1 hcells h1 h63 hbytes hbase;exact⟨v',w',hrun,h2,h3,h5⟩
theorem Cr (s x:Operand)(t:TypeId)(ho:o.op= .call {callee:= .builtin .append,args:= #[s,x],argTypes:= #[t,t]})(base:Nat)(e:TypeId)(i:TypeInfo)(z:Value)(size bytes:Nat)(ht:P.underlying t=some (.slice e))(hi:P.info? e=some i)(hz:i.zero=some z)(hsize:i.size=size)(hby:i.bytes=bytes)(hzs:z.cells.size=size)(hsz:0<size)(v:Value)(n:Nat)(xs:List Value)(hs:a.eval s=v)(hown:w.ownsRow base e size v n xs)(B:Nat)(A:Option Addr)(m c:Nat)(news:List Value)(hx:a.eval x= .slice A m c)(hr:Reads w B size A m news)(h1:∀u∈news,u.oneCell'=true)(h63:n+m≤maxLen)(hbytes:(n+m)*bytes≤140737488355328)(hbase:base≤w.heap.size)(h:∀v' w',w'.ownsRow base e size v' (n+m) (xs++news)→w.grownBy w' v.ownBlock→(v'.ownBlock=v.ownBlock∨v'.ownBlock=some w.heap.size)→K (a.put o.dst v') w'):o.wp P a w K Q:=by
 obtain⟨v',w',hrun,h2,h3,h4⟩:=Jv (P:=P) w base t o.type e i z size bytes ht hi hz hsize hby hzs hsz v n xs hown B A m c news hr h1 h63 hbytes hbase;unfold Oper.wp execOp;simp only[ho,resolve,invoke,builtin,Sem.run_bind,Sem.run_pure,Result.andThen_ok,List.map_toArray,List.map_cons,List.map_nil,hs,hx,hrun];exact h v' w' h2 h3 h4
theorem EZ (hgd:o.guard=none)(s x:Operand)(t:TypeId)(ho:o.op= .call {callee:= .builtin .append,args:= #[s,x],argTypes:= #[t,t]})(base:Nat)(e:TypeId)(i:TypeInfo)(z:Value)(size bytes:Nat)(ht:P.underlying t=some (.slice e))(hi:P.info? e=some i)(hz:i.zero=some z)(hsize:i.size=size)(hby:i.bytes=bytes)(hzs:z.cells.size=size)(hsz:0<size)(v:Value)(n:Nat)(xs:List Value)(hs:a.eval s=v)(hown:w.ownsRow base e size v n xs)(B:Nat)(A:Option Addr)(m c:Nat)(news:List Value)(hx:a.eval x= .slice A m c)(hr:Reads w B size A m news)(h1:∀u∈news,u.oneCell'=true)(h63:n+m≤maxLen)(hbytes:(n+m)*bytes≤140737488355328)(hbase:base≤w.heap.size)(h:∀v' w',w'.ownsRow base e size v' (n+m) (xs++news)→w.grownBy w' v.ownBlock→(v'.ownBlock=v.ownBlock∨v'.ownBlock=some w.heap.size)→wpList P ops Q rest (a.put o.dst v') w'):wpList P ops Q (o::rest) a w:=
 wpList_plain hgd fun _ hK=>Cr w s x t ho base e i z size bytes ht hi hz hsize hby hzs hsz v n xs hs hown B A m c news hx hr h1 h63 hbytes hbase fun v' w' h2 h3 h4=>hK _ _ (h v' w' h2 h3 h4)
theorem Hz (hgd:o.guard=none)(s x:Operand)(t:TypeId)(ho:o.op= .call {callee:= .builtin .append,args:= #[s,x],argTypes:= #[t,t]})(base:Nat)(e:TypeId)(i:TypeInfo)(z:Value)(size bytes:Nat)(ht:P.underlying t=some (.slice e))(hi:P.info? e=some i)(hz:i.zero=some z)(hsize:i.size=size)(hby:i.bytes=bytes)(hzs:z.cells.size=size)(hsz:0<size)(v:Value)(n:Nat)(xs:List Value)(hs:a.eval s=v)(hown:w.ownsRow base e size v n xs)(B:Nat)(A:Option Addr)(m c:Nat)(news:List Value)(hx:a.eval x= .slice A m c)(hr:Reads w B size A m news)(h1:∀u∈news,u.oneCell'=true)(h63:n+m≤maxLen)(hbytes:(n+m)*bytes≤140737488355328)(hbase:base≤w.heap.size)(h:∀v' w',w'.ownsRow base e size v' (n+m) (xs++news)→w.grownBy w' v.ownBlock→(v'.ownBlock=v.ownBlock∨v'.ownBlock=some w.heap.size)→K (a.put o.dst v') w'):
  if Region.wanted o (yielded ops a.tmps)=true then Oper.wp P o a w K Q else E:=by
 have hw:Region.wanted o (yielded ops a.tmps)=true:=by simp[Region.wanted,hgd]
 rw[if_pos hw];exact Cr w s x t ho base e i z size bytes ht hi hz hsize hby hzs hsz v n xs hs hown B A m c news hx hr h1 h63 hbytes hbase h
end
theorem Q9 {v':Value}{w w':World}(hown:w.ownsRow base e size v n xs)(hbase:base≤w.heap.size)(hg:w.grownBy w' v.ownBlock)(hat:v'.ownBlock=v.ownBlock∨v'.ownBlock=some w.heap.size):oP w base v w' v':=
 ⟨(Below.refl base w).grown hg hbase (fun k hk=>(hown.lt k hk).1),hg,hat.imp_right fun h=>⟨_,h,Nat.le_refl _⟩⟩
theorem dN {P:Program}{w:World}(hgd:o.guard=none)(ho:o.op= .call {callee:= .builtin .append,args:= #[s,x],argTypes:= #[t,t]})(hT:vX P t e size bytes)(hown:w.ownsRow base e size v n xs)(hs:a.eval s=v)(hx:a.eval x= .slice A m c)(hr:Reads w B size A m news)(h1':(news.all fun u=>u.oneCell')=true)(hn:n+m<33554432)(hbase:base≤w.heap.size)(h:∀v' w',w'.ownsRow base e size v' (n+m) (xs++news)→oP w base v w' v'→K (a.put o.dst v') w'):
  if Region.wanted o (yielded ops a.tmps)=true then Oper.wp P o a w K Q else E:=by
 obtain⟨i,z,ht,hi,hz,hsize,hby,hzs,hsz,hb⟩:=hT
 refine Hz w hgd s x t ho base e i z size bytes ht hi hz hsize hby hzs hsz v n xs hs hown B A m c news hx hr (List.all_eq_true.1 h1') (by simp only[maxLen];omega) ?_ hbase
  (fun v' w' h2 h3 h4=>h v' w' h2 (Q9 hown hbase h3 h4))
 have:(n+m)*bytes≤33554432*4096:=Nat.mul_le_mul (by omega) hb;omega
theorem Bt {P:Program}{w:World}(hgd:o.guard=none)(ho:o.op= .call {callee:= .builtin .append,args:= #[s,x],argTypes:= #[t,t]})(hT:vX P t e size bytes)(hown:w.ownsRow base e size v n xs)(hs:a.eval s=v)(hx:a.eval x= .slice A m c)(hr:Reads w B size A m news)(h1':(news.all fun u=>u.oneCell')=true)(hn:n+m<33554432)(hbase:base≤w.heap.size)(h:∀v' w',w'.ownsRow base e size v' (n+m) (xs++news)→oP w base v w' v'→wpList P ops Q rest (a.put o.dst v') w'):wpList P ops Q (o::rest) a w:=by
 obtain⟨i,z,ht,hi,hz,hsize,hby,hzs,hsz,hb⟩:=hT
 refine EZ w hgd s x t ho base e i z size bytes ht hi hz hsize hby hzs hsz v n xs hs hown B A m c news hx hr (List.all_eq_true.1 h1') (by simp only[maxLen];omega) ?_ hbase
  (fun v' w' h2 h3 h4=>h v' w' h2 (Q9 hown hbase h3 h4))
 have:(n+m)*bytes≤33554432*4096:=Nat.mul_le_mul (by omega) hb;omega
theorem Nr {w:World}(h:w.ownsRow base e size (.slice A n c) n xs):(A=none∧n=0∧c=0)∨∃g,A=some ⟨g,0,none⟩∧n≤c∧base≤g∧g<w.heap.size:=by
 rcases h.2 with⟨hv,hx⟩|⟨g,cap,cur,hv,hg,hh,hcap,_⟩
 ·injection hv with h1 h2 h3
  exact .inl ⟨h1,h2,h3⟩
 ·injection hv with h1 h2 h3
  subst h3;exact .inr ⟨g,h1,hcap,hg,(Array.getElem?_eq_some_iff.1 hh).1⟩
theorem abb {P:Program}(hu:P.underlying t=some (.slice e))(hs:∀w,(sizeOf e).run P w= .ok size w){w:World}{j:Nat}(h:w.ownsRow base e size (.slice A n c) n xs)(hj:j≤n):
  ∃X,(∀W,(Instr.slice t (.slice A n c) (some (.int .i64 (j:Int))) none none).run P W= .ok (.slice X (n-j) (c-j)) W)∧Reads w w.heap.size size X (n-j) (xs.drop (j*size))∧
   (∀W,(Instr.slice t (.slice A n c) none (some (.int .i64 (j:Int))) none).run P W= .ok (.slice A j c) W)∧Reads w w.heap.size size A j (xs.take (j*size)):=by
 have hr:=Reads.eO h;have hx:=hr.1;rcases Nr h with⟨rfl,rfl,rfl⟩|⟨g,rfl,hc,_,_⟩
 ·obtain rfl:j=0:=by omega
  have hx0:xs=[]:=List.eq_nil_of_length_eq_zero (by simpa using hx);subst hx0;refine⟨none,fun W=> ?_,by simpa using Reads.none_,fun W=>Nq hu hs none 0 0 0 (Nat.le_refl _) W,by simpa using Reads.none_⟩;simp[Instr.slice,run_underlying hu,go_sem,hs]
 ·refine⟨_,fun W=>SV hu hs g 0 n c j hj W,⟨by rw[List.length_drop,hx,Nat.sub_mul],fun hn=> ?_⟩,fun W=>Nq hu hs _ n c j (by omega) W,⟨by rw[List.length_take,hx];exact Nat.min_eq_left (Nat.mul_le_mul_right _ hj),fun hn=> ?_⟩⟩
  ·rw[if_neg (by omega)];obtain⟨b,off,he,hb,hcell⟩:=hr.2 (by omega)
   injection he with he
   injection he with h1 h2 _
   subst h1 h2;refine⟨_,_,rfl,hb,fun k u hk=> ?_⟩;rw[List.getElem?_drop]at hk;have:=hcell _ u hk;rw[Nat.add_assoc];exact this
  ·obtain⟨b,off,he,hb,hcell⟩:=hr.2 (by omega);refine⟨b,off,he,hb,fun k u hk=>hcell k u ?_⟩;rw[List.getElem?_take]at hk;split at hk
   ·exact hk
   ·cases hk
theorem Nt (w:World)(base:Nat)(e:TypeId)(size:Nat)(hb:base≤w.heap.size):(w.alloc (.cells #[] e)).ownsRow base e size (.slice (some ⟨w.heap.size,0,none⟩) 0 0) 0 []:=
 World.ownsRow_made w #[] 0 hb (by simp[maxLen]) (by simp)
theorem rO {w:World}{g:Nat}{cs:Array Value}(h:aj w g t cs)(hl:cs.size=m*size):Reads w w.heap.size size (some ⟨g,0,none⟩) m cs.toList:=
 ⟨by simpa using hl,fun _=>⟨g,0,rfl,h.lt,fun j u hu=>by
  rw[Nat.zero_add,h.cell]
  simpa using hu⟩⟩
end
section
def aM (p:Nat×Nat):List Value:=[.int .u64 (p.1:Int),.int .u64 (p.2:Int)]
theorem dS {p:Nat×Nat}{q:Nat}:∀{l:PL} {i:Nat},l[i]?=some p→q<2→(l.flatMap aM)[i*2+q]?=some ((aM p)[q]!)
 | [],_,h,_=>by simp at h
 |x::l,0,h,hq=>by
  obtain rfl:=Option.some.inj h;rw[List.flatMap_cons,List.getElem?_append_left (by simp[aM];omega)]
  have:q=0∨q=1:=by omega
  rcases this with rfl|rfl<;>rfl
 |x::l,i+1,h,hq=>by
  rw[List.flatMap_cons,List.getElem?_append_right (by simp[aM];omega)];have:=dS (l:=l) (i:=i) h hq;rw[show(i+1)*2+q-(aM x).length=i*2+q by simp[aM];omega];exact this
theorem fU (l:PL):(l.flatMap aM).length=l.length*2:=by
 induction l with
 |nil=>rfl
 |cons x l ih=>rw[List.flatMap_cons,List.length_append,ih,List.length_cons];simp[aM];omega
theorem yU (l:PL):∀v∈l.flatMap aM,v.oneCell'=true:=by
 intro v hv;obtain⟨p,_,hp⟩:=List.mem_flatMap.1 hv;simp only[aM,List.mem_cons,List.not_mem_nil,or_false]at hp
 rcases hp with rfl|rfl<;>rfl
theorem H7 (l:PL)(i:Nat):(l.flatMap aM).take (i*2)=(l.take i).flatMap aM:=by
 by_cases hi:i≤l.length
 ·have h:=congrArg (List.flatMap aM) (List.take_append_drop i l);rw[List.flatMap_append]at h;rw[←h,List.take_append_of_le_length (by rw[fU,List.length_take];omega),List.take_of_length_le (by rw[fU,List.length_take];omega)]
 ·rw[List.take_of_length_le (by rw[fU];omega),List.take_of_length_le (by omega)]
theorem H8 (l:PL)(i:Nat):(l.flatMap aM).drop (i*2)=(l.drop i).flatMap aM:=by
 have h:=congrArg (List.flatMap aM) (List.take_append_drop i l);rw[List.flatMap_append]at h;by_cases hi:i≤l.length
 ·rw[←h,List.drop_append_of_le_length (by rw[fU,List.length_take];omega),List.drop_of_length_le (by rw[fU,List.length_take];omega),List.nil_append]
 ·rw[List.drop_of_length_le (by rw[fU];omega),List.drop_of_length_le (by omega)];rfl
theorem Ve {l:PL}{i:Nat}(h:i<l.length)(k v:Nat)(hk:(l[i]?).map Prod.fst=some k):(l.flatMap aM).set (i*2+1) (.int .u64 (v:Int))=(l.set i (k,v)).flatMap aM:=by
 induction l generalizing i with
 |nil=>simp at h
 |cons x l ih=>
  cases i with
  |zero=>
   have:x.1=k:=by simpa using hk
   simp[aM,this]
  |succ i=>
   rw[List.set_cons_succ,List.flatMap_cons,List.flatMap_cons,←ih (by simpa using h) (by simpa using hk),List.set_append_right _ _ (by simp[aM];omega)];congr 2;simp[aM];omega
theorem uP:(Tryz.prog.info? 37).map (fun i=>(i.zero,i.size,i.bytes))=some (some (.agg #[.int .u64 0,.int .u64 0]),2,16):=by kernel_rfl
def kM (base:Nat)(w:World)(fb most:Nat)(F:List Nat)(l:PL):Prop:=
 ∃v,aj w fb 66 #[.int .i64 (most:Int),v]∧w.ownsRow base 37 2 v l.length (l.flatMap aM)∧F=fb::v.ownBlock.toList∧base≤fb∧eY l
def Gh (base:Nat)(w w':World)(fb most:Nat)(F:List Nat)(l:PL):Prop:=
 ∃F',kM base w' fb most F' l∧(∀q∈F',q∈F∨w.heap.size≤q)∧Mod F w w'
theorem Ra {w:World}{base n g sz:Nat}{e t:TypeId}{v:Value}{xs:List Value}{cs:Array Value}(h:w.ownsRow base e sz v n xs)(hB:aj w g t cs)(ht:t≠e):g∉v.ownBlock.toList:=by
 intro hg
 have hg':v.ownBlock=some g:=by simpa using hg
 rcases h.2 with⟨rfl,_⟩|⟨g',cap,cur,rfl,_,hh,_⟩
 ·cases hg'
 ·have:g'=g:=by simpa[Value.ownBlock]using hg'
  subst this;have h1:w.heap[g']?=some (.cells cs t (0,0)):=hB;rw[hh]at h1
  injection h1 with h1
  injection h1 with _ h1 _
  exact ht h1.symm
section
variable {base most fb n : Nat} {w w' : World} {F S : List Nat} {l l' : PL}
theorem kM.fH (h:kM base w fb most F l):∀q∈F,q<w.heap.size∧base≤q:=by
 obtain⟨v,h1,h2,rfl,h3,_⟩:=h;intro q hq;rcases List.mem_cons.1 hq with rfl|hq
 ·exact⟨h1.lt,h3⟩
 ·have:=h2.lt q (by simpa using hq);exact⟨this.2,this.1⟩
theorem kM.mod (h:kM base w fb most F l)(hm:Mod S w w')(hS:∀q∈S,q∉F):kM base w' fb most F l:=by
 obtain⟨v,h1,h2,rfl,h3⟩:=h;refine⟨v,h1.mod hm (fun hq=>hS fb hq (by simp)),⟨h2.1, ?_⟩,rfl,h3⟩;rcases h2.2 with k|⟨g,cap,cur,rfl,k2,k3,k4⟩
 ·exact .inl k
 ·refine .inr ⟨g,cap,cur,rfl,k2, ?_,k4⟩;rw[hm.block g (Array.getElem?_eq_some_iff.1 k3).1 (fun hq=>hS g hq (by simp[Value.ownBlock]))];exact k3
theorem kM.below (h:kM base w fb most F l)(hb:Below w.heap.size w w'):kM base w' fb most F l:=h.mod (Mod.of_below hb []) (by simp)
theorem kM.oo (h:kM base w fb most F l):eY l:=by
 obtain⟨v,_,_,_,_,h⟩:=h;exact h
end
def lK (a b:Nat):Int:=if a<b then-1 else if b<a then 1 else 0
theorem Vf (x:Int)(w:World):Calls Tryz.prog 126 #[.int .u64 x] w fun y w'=>y= .returned (.bool false)∧w=w':=by
 go_in;go_wp2;go_ret;exact⟨by simp,rfl⟩
theorem Qk (a b:Nat)(w:World):Calls Tryz.prog 90 #[.int .u64 (a:Int),.int .u64 (b:Int)] w fun e w'=>e= .returned (.int .i64 (lK a b))∧w=w':=by
 have HN:=qd (fun(z:Int) (W:World)=>Vf z W);obtain⟨v,hv⟩:∃v,v=lK a b:=⟨_,rfl⟩;rw[←hv];rcases Nat.lt_trichotomy a b with h|h|h
 focus
  have h1:(a:Int)<(b:Int):=by omega
  obtain rfl:v= -1:=by rw[hv];unfold lK;rw[if_pos h]
  clear hv h
 rotate_left
 focus
  subst h
  obtain rfl:v=0:=by rw[hv];unfold lK;simp
  clear hv
 rotate_left
 focus
  have h1:¬(a:Int)<(b:Int):=by omega
  have h2:(b:Int)<(a:Int):=by omega
  obtain rfl:v=1:=by rw[hv];unfold lK;rw[if_neg (by omega),if_pos h]
  clear hv h
 all_goals
  go_in;go_wp2_with fail;refine(HN.out _ _).mono ?_;rintro e wq ⟨rfl,rfl⟩;go_wp2_with fail;refine(HN.out _ _).mono ?_;rintro e wq ⟨rfl,rfl⟩;go_wp2;go_ret;exact⟨rfl,rfl⟩
theorem Nu (p:Nat×Nat)(key:Nat)(w:World):Calls Tryz.prog 61 #[.agg #[.int .u64 (p.1:Int),.int .u64 (p.2:Int)],.int .u64 (key:Int)] w fun e w'=>e= .returned (.int .i64 (lK p.1 key))∧Below w.heap.size w w':=by
 have HC:=qd (fun(W:World)=>Qk p.1 key W);go_in;go_wp2_with fail;refine(HC.out _).mono ?_;rintro e wq ⟨rfl,rfl⟩;go_wp2;go_ret;exact⟨rfl,(Below.refl w.heap.size w).alloc (Nat.le_refl _) _⟩
end
end Go.Proofs.YtbfpfgfgfjhpfaaGreatDoor
