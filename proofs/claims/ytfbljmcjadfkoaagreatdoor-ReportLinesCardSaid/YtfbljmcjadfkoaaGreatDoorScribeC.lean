/- script.One by its contract. -/
import Derived.Test.YtfbljmcjadfkoaaGreatDoorScriptD
import Derived.Test.YtfbljmcjadfkoaaGreatDoorSq
import Derived.Test.YtfbljmcjadfkoaaGreatDoorSqT
import Derived.BigRegion
import Derived.ChangeAlike
import Derived.Maps.OwnSet
import Derived.Maps.OwnOps
import Derived.Test.YtfbljmcjadfkoaaGreatDoorGaugeB
import Derived.Test.YtfbljmcjadfkoaaGreatDoorShelf
import Derived.Shelf.Strings.BuilderX
import Derived.Lib.Builder
import Derived.Lib.AppendStr
import Derived.WalkKit
import Derived.WalkSpells
import Derived.WalkLawsBesides
import Derived.Laws.Externs
import Derived.Outline
import Derived.Laws.IdiomStrings
import Derived.Test.YtfbljmcjadfkoaaGreatDoorCoH
import Derived.Lib.SplitLaws
import Derived.Deep.QuietTactic
import Derived.BigQuiet
import Derived.Deep.Cut
import Derived.Deep.CutRange
import Derived.Deep.RegionWith
namespace Go.Proofs.YtfbljmcjadfkoaaGreatDoor
set_option maxRecDepth 100000
set_option maxHeartbeats 2000000
open Go.RowKit AmS AmD Go.Maps AmW Go
variable {w w' : World} {j k n : Nat} {r : List Bts} {ns : List Nat} {v : Value} {E : Nat → Addr}
def nameBs:List ByteArray:=names.map fun l=>⟨l.toArray⟩
def nilOp:Value:= .agg #[.int .i64 0,.int .u64 0,.int .u64 0,.int .u64 0,.int .i64 0]
def OnePost (E:Nat→Addr)(w:World)(r:Except Nat SOp)(e:Ending)(w':World):Prop:=
 match r with
 | .ok o=>e= .returned (.tuple #[opV o,.nilIface])∧Below w.heap.size w w'
 | .error k=>e= .returned (.tuple #[nilOp,.iface 372 (.pointer (some (E k)))])∧Below w.heap.size w w'
def u64s (ns:List Nat):List Value:=ns.map fun n:Nat=>Value.int .u64 (n:Int)
structure OneAt (W:World)(k:Nat)(r:List Bts)(R:Except Nat (List Nat))(j:Nat)(ns:List Nat)(v:Value)(wr:World):Prop where
 own:wr.ownsRow W.heap.size 72 1 v ns.length (u64s ns)
 rest:numsE k ns (r.drop j)=R
 len:ns.length=j
 below:Below W.heap.size W wr
theorem OneAt.append {W:World}{R:Except Nat (List Nat)}{v':Value}(hb:Below W.heap.size W w)(hl:ns.length=j)(hrest:numsE k (ns++[n]) (r.drop (j+1))=R)(hown:w'.ownsRow W.heap.size 72 1 v' (ns.length+1) (u64s ns++[.int .u64 (n:Int)]))(g:Grew w W.heap.size v w' v'):OneAt W k r R (j+1) (ns++[n]) v' w':=
 ⟨by rw[List.length_append];simpa[u64s]using hown,hrest,by simp[hl],hb.trans g.below⟩
def OneEnd (E:Nat→Addr)(w:World)(k:Nat)(r:List Bts):Ending→World→Prop:=OnePost E w (match numsE k [] r with| .error e=> .error e| .ok ns=> .ok (opOf k ns))
end Go.Proofs.YtfbljmcjadfkoaaGreatDoor

/-! A map from integers to integers that the call has made, as a function: look-up and store. No statement of the claim. -/
namespace Go.Proofs.YtfbljmcjadfkoaaGreatDoor
set_option maxRecDepth 100000
set_option maxHeartbeats 2000000
open Go.RowKit AmS AmD Go.Maps AmW Go
variable {ops : Array Oper} {rest : List Oper} {o : Oper} {Q : Exit → Act → World → Prop}
def MapFn (w:World)(P:Program)(k e:TypeId)(qk q:IntKind)(b n:Nat)(f:Int→Option Int):Prop:=
 ∃D:DataW Unit,w.ownsMap P k (plainElem P e) b n D∧∀x,(Lit.int qk x).wf=true→Maps.has D (.int qk x)=(f x).isSome∧∀v,f x=some v→D.atKey (.int qk x) (.lit (.int q 0))= .lit (.int q v)
section
variable {P : Program} {k e t : TypeId} {qk q : IntKind} {b n : Nat} {f : Int → Option Int} {w w' : World}
theorem MapFn.made (w:World)(P:Program)(k e:TypeId)(qk q:IntKind):MapFn (w.alloc (.map #[] 0)) P k e qk q w.heap.size 0 (fun _=>none):=
 ⟨_,World.ownsMap_made w P k _,fun x _=>⟨rfl,fun v hv=>by cases hv⟩⟩
theorem MapFn.alloc (h:MapFn w P k e qk q b n f)(o:Obj):MapFn (w.alloc o) P k e qk q b n f:=by
 obtain⟨D,h1,h2⟩:=h;exact⟨D,h1.alloc o,h2⟩
theorem MapFn.drewN (h:MapFn w P k e qk q b n f)(m:Nat):MapFn (w.drewN m) P k e qk q b n f:=by
 obtain⟨D,h1,h2⟩:=h;exact⟨D,h1,h2⟩
theorem MapFn.kept {row:Option Nat}(h:MapFn w P k e qk q b n f)(hg:w.grownBy w' row)(hne:some b≠row):MapFn w' P k e qk q b n f:=by
 obtain⟨D,h1,h2⟩:=h;exact⟨D,h1.kept hg hne,h2⟩
theorem MapFn.below {B:Nat}(h:MapFn w P k e qk q b n f)(hb:Below B w w')(hB:b<B):MapFn w' P k e qk q b n f:=by
 obtain⟨D,⟨es,clock,hh,r⟩,h2⟩:=h;exact⟨D,⟨es,clock,(hb.block b hB).trans hh,r⟩,h2⟩
theorem MapFn.lt (h:MapFn w P k e qk q b n f):b<w.heap.size:=by
 obtain⟨D,h1,_⟩:=h;exact h1.lt
theorem MapFn.congr {g:Int→Option Int}(h:MapFn w P k e qk q b n f)(he:∀x,f x=g x):MapFn w P k e qk q b n g:=by
 obtain rfl:f=g:=funext he;exact h
theorem lit_inj {a c:Int}(h:(DataW.lit (.int q a):DataW Unit)= .lit (.int q c)):a=c:=by
 injection h with h
 injection h
theorem wpList_look_ok {a:Act}(hg:o.guard=none)(m x:Operand)(hop:o.op=Op.lookup t m x true)(hk:P.underlying k=some (.int qk))(ht:P.underlying t=some (.map k e))(he:P.underlying e=some (.int q))(hz:(zeroValue e).run P w= .ok (.int q 0) w)(hm:a.eval m= .map (some b))(hown:MapFn w P k e qk q b n f)(xv:Int)(hx:a.eval x= .int qk xv)(hw:(Lit.int qk xv).wf=true)(hK:wpList P ops Q rest (a.put o.dst (.tuple #[.int q ((f xv).getD 0),.bool (f xv).isSome])) w):
  wpList P ops Q (o::rest) a w:=by
 obtain⟨D,h1,h2⟩:=hown;obtain⟨h3,h4⟩:=h2 xv hw;refine wpList_lookup_own_ok_int w hg m x t hop k e q (int_keyed hk) ht he hz b n D hm h1 _ _ hx (keyOf_int_mk hk hw) fun c hc _=> ?_;rw[h3]
 cases hf:f xv with
 |some v=>
  rw[h4 v hf]at hc;obtain rfl:=lit_inj hc;rw[hf]at hK;exact hK
 |none=>
  rw[hf]at h3;rw[atKey_of_not_has h3]at hc;obtain rfl:=lit_inj hc;rw[hf]at hK;exact hK
theorem wpList_store_fn {a:Act}(hg:o.guard=none)(m x v:Operand)(hop:o.op=Op.mapUpdate t m x v)(hk:P.underlying k=some (.int qk))(ht:P.underlying t=some (.map k e))(he:P.underlying e=some (.int q))(hm:a.eval m= .map (some b))(hown:MapFn w P k e qk q b n f)(hn:n<maxLen)(xv vv:Int)(hx:a.eval x= .int qk xv)(hv:a.eval v= .int q vv)(hw:(Lit.int qk xv).wf=true)(hwv:(Lit.int q vv).wf=true)(hK:∀w',MapFn w' P k e qk q b (n+1) (fun y=>if y=xv then some vv else f y)→w.grownBy w' (some b)→wpList P ops Q rest (a.put o.dst undef) w'):
  wpList P ops Q (o::rest) a w:=by
 obtain⟨D,h1,h2⟩:=hown;have hD:IsMap D:=h1.isMap;refine wpList_mapUpdate_own w hg m x v t hop k e (int_keyed hk) ht _ b n D hm h1 hn _ _ _ hx hv (keyOf_int_mk hk hw) _ [] (plainElem_int he hwv) fun w' h3 h4=>hK w' ⟨_,h3,fun y hy=> ?_⟩ h4;have hkl:WideAt.IsKeyLit (.int qk xv):=(int_keyed hk).key (keyOf_int_mk hk hw);by_cases hyx:y=xv
 ·subst hyx;refine⟨?_,fun u hu=> ?_⟩
  ·rw[has_put_same hD hkl];simp
  ·rw[atKey_put_same hD hkl];simp at hu;rw[hu]
 ·have hne:(Lit.int qk y)≠ .int qk xv:=fun e=>hyx (by injection e);obtain⟨h5,h6⟩:=h2 y hy;simp only[hyx,if_false];refine⟨by rw[has_put_other hne];exact h5,fun u hu=> ?_⟩;rw[atKey_put_other hne];exact h6 u hu
end
end Go.Proofs.YtfbljmcjadfkoaaGreatDoor

/-! script.Consistent and script.Hashes by their contracts. -/
namespace Go.Proofs.YtfbljmcjadfkoaaGreatDoor
set_option maxRecDepth 100000
set_option maxHeartbeats 2000000
open Go.RowKit AmS AmD Go.Maps AmW Go
variable {w w' : World} {r : Option Nat}
theorem zero_u64 (w:World):(zeroValue 72).run Tryz.prog w= .ok (.int .u64 0) w:=by kernel_rfl
def ConsPost (w:World)(r:Option Nat)(e:Ending)(w':World):Prop:=
 (match r with
  |some i=>e= .returned (.tuple #[.int .i64 (i:Int),.bool false])
  |none=>e= .returned (.tuple #[.int .i64 0,.bool true]))∧Below w.heap.size w w'
theorem cons_hit {i:Nat}(h:r=some i)(hb:Below w.heap.size w w'):ConsPost w r (.returned (.tuple #[.int .i64 (i:Int),.bool false])) w':=by
 subst h;exact⟨rfl,hb⟩
theorem cons_end (h:r=none)(hb:Below w.heap.size w w'):ConsPost w r (.returned (.tuple #[.int .i64 0,.bool true])) w':=by
 subst h;exact⟨rfl,hb⟩
structure ConsAt (w:World)(l:List SOp)(R:Option Nat)(k:Nat)(wr:World):Prop where
 rest:otherGo (l.take k) (l.drop k)=R
 free:free (l.take k)
 map:MapFn wr Tryz.prog 72 72 .u64 .u64 w.heap.size k (known (l.take k))
 below:Below w.heap.size w wr
theorem script_Consistent (A:Option Addr)(n c:Nat)(l:List SOp)(w:World)(h:Reads w w.heap.size 5 A n (opsCells l))(hn:n≤65536)(hwf:∀o∈l,opWf o):
  Calls Tryz.prog 82 #[.slice A n c] w (ConsPost w (other l)):=by
 have hl:l.length=n:=by have:=h.1;rw[opsCells_length]at this;omega
 generalize hR:other l=R;have HR:=qd (show otherGo (l.take 0) (l.drop 0)=R from by simpa[other]using hR);clear hR;have hmm:=@run_makeMap Tryz.prog;go_in;go_wp2;go_loopw [5,6,7,8,12] (fun _ _ _ _ i wr=>∃k:Nat,k≤n∧i= .int .i64 k∧ConsAt w l R k wr) (fun _ _ _ _ i _=>n-(intOf i).toNat)
 case atStart=>exact⟨0,by omega,rfl,HR.out,free_nil,MapFn.made _ _ _ _ _ _,(Below.refl _ _).alloc (Nat.le_refl _) _⟩
 case round=>
  obtain⟨k,hk,rfl,hc⟩:=hrel;by_cases hlt:k<n
  ·have ho:l[k]?=some (l[k]'(by omega)):=List.getElem?_eq_getElem _;have hw0:=hwf _ (List.getElem_mem (show k<l.length by omega));generalize l[k]'(by omega)=o at ho hw0;obtain⟨b,off,rfl,hb,c0,c1,c2,c3,c4⟩:=op_cells (h.below hc.below) ho;have hrest:=hc.rest;rw[drop_op ho,otherGo]at hrest;have hfree:=hc.free;have hkn:=known_snoc (l.take k) o;have hkf:=clash_known hfree o;have htk:=take_snoc_op ho
   have hlen:(l.take k).length=k:=by rw[List.length_take];omega
   rw[hlen,←htk]at hrest;rw[←htk]at hkn;have hsn:=free_snoc (o:=o) hfree;rw[←htk]at hsn;obtain⟨_,_,w2,w3,_,_,w6,w7,_,_⟩:=hw0;have hwk:=qd (wf_u64 w2 w3);have hwh:=qd (wf_u64 w6 w7);have hmap:=hc.map;have hbel:=hc.below;clear hc ho htk hlen
   have hlt':(k:Int)<(n:Int):=by omega
   cases hK:keyedP o.kind with
   |false=>
    rw[hK,Bool.false_and]at hkf;rw[hkf,if_neg (by simp)]at hrest
    have hk2:known (l.take (k+1))=known (l.take k):=by rw[hkn,knownAdd,hK];rfl
    have HRest:=qd hrest;have HF:=qd (hsn hkf);have HK2:=qd hk2;have HK:=qd (show∀W,Calls Tryz.prog 87 #[.int .i64 o.kind] W fun e w'=>e= .returned (.bool false)∧W=w' from fun W=>by have:=script_keyed o.kind W;rw[hK]at this;exact this);clear hrest hkn hkf hsn hfree hk2 hK;go_wp2_with (go_at_call 87;refine(HK.out _).mono ?_;rintro e w1 ⟨rfl,rfl⟩);go_roundw
    case rel=>exact⟨k+1,by omega,by go_num,HRest.out,HF.out,by rw[HK2.out];obtain⟨D,d1,d2⟩:=hmap.alloc _;exact⟨D,d1.mono (by omega),d2⟩,hbel.alloc hbel.size _⟩
    case measure=>first|(simp[intOf];done)|(simp[intOf];omega)
   |true=>
    rw[hK,Bool.true_and]at hkf;have HK:=qd (show∀W,Calls Tryz.prog 87 #[.int .i64 o.kind] W fun e w'=>e= .returned (.bool true)∧W=w' from fun W=>by have:=script_keyed o.kind W;rw[hK]at this;exact this)
    have hk2:known (l.take (k+1))=fun y=>if y=o.key then some o.hash else known (l.take k) y:=by rw[hkn,knownAdd,hK];rfl
    have HK2:=qd hk2;clear hkn hk2 hK
    cases hf:known (l.take k) o.key with
    |none=>
     rw[hf]at hkf;rw[hkf,if_neg (by simp)]at hrest;have HRest:=qd hrest;have HF:=qd (hsn hkf);have Hf:=qd hf;clear hrest hkf hsn hfree hf
     go_wp2_with (first
      |(go_at_call 87;refine(HK.out _).mono ?_;rintro e w1 ⟨rfl,rfl⟩)
      |(at_lookup;refine wpList_look_ok rfl _ _ rfl Tryz.underlying72 Tryz.underlying179 Tryz.underlying72 (zero_u64 _) rfl (hmap.alloc _) o.key rfl hwk.out ?_;rw[Hf.out])
      |(at_mapUpdate;refine wpList_store_fn rfl _ _ _ rfl Tryz.underlying72 Tryz.underlying179 Tryz.underlying72 rfl (hmap.alloc _) (by unfold maxLen;omega) o.key o.hash rfl rfl hwk.out hwh.out ?_;intro w2 hm2 hg2))
     go_roundw
     case rel=>exact⟨k+1,by omega,by go_num,HRest.out,HF.out,by rw[HK2.out];exact hm2,(hbel.alloc hbel.size _).grown hg2 (by have:=hbel.size;simp;omega) (fun j hj=>by cases hj;exact Nat.le_refl _)⟩
     case measure=>first|(simp[intOf];done)|(simp[intOf];omega)
    |some hv=>
     rw[hf]at hkf;simp only at hkf;have Hf:=qd hf;clear hf;by_cases hh:hv=o.hash
     ·have hne:(hv !=o.hash)=false:=by simp[hh]
      rw[hne]at hkf;rw[hkf,if_neg (by simp)]at hrest;have HRest:=qd hrest;have HF:=qd (hsn hkf);clear hrest hkf hsn hfree hh
      go_wp2_with (first
       |(go_at_call 87;refine(HK.out _).mono ?_;rintro e w1 ⟨rfl,rfl⟩)
       |(at_lookup;refine wpList_look_ok rfl _ _ rfl Tryz.underlying72 Tryz.underlying179 Tryz.underlying72 (zero_u64 _) rfl (hmap.alloc _) o.key rfl hwk.out ?_;rw[Hf.out])
       |(at_mapUpdate;refine wpList_store_fn rfl _ _ _ rfl Tryz.underlying72 Tryz.underlying179 Tryz.underlying72 rfl (hmap.alloc _) (by unfold maxLen;omega) o.key o.hash rfl rfl hwk.out hwh.out ?_;intro w2 hm2 hg2))
      go_roundw
      case rel=>exact⟨k+1,by omega,by go_num,HRest.out,HF.out,by rw[HK2.out];exact hm2,(hbel.alloc hbel.size _).grown hg2 (by have:=hbel.size;simp;omega) (fun j hj=>by cases hj;exact Nat.le_refl _)⟩
      case measure=>first|(simp[intOf];done)|(simp[intOf];omega)
     ·have hne:(hv !=o.hash)=true:=by simp[hh]
      rw[hne]at hkf;rw[hkf,if_pos rfl]at hrest;have HRest:=qd hrest;clear hrest hkf hsn hfree hh
      go_wp2_with (first
       |(go_at_call 87;refine(HK.out _).mono ?_;rintro e w1 ⟨rfl,rfl⟩)
       |(at_lookup;refine wpList_look_ok rfl _ _ rfl Tryz.underlying72 Tryz.underlying179 Tryz.underlying72 (zero_u64 _) rfl (hmap.alloc _) o.key rfl hwk.out ?_;rw[Hf.out]))
      go_ret2;exact cons_hit HRest.out.symm (hbel.alloc hbel.size _)
  ·obtain rfl:k=n:=by omega
   have hrest:=hc.rest;rw[List.drop_eq_nil_of_le (by omega),otherGo]at hrest;have HRest:=qd hrest;have hbel:=hc.below;clear hrest hc;go_wp2;go_ret2;exact cons_end HRest.out.symm hbel
end Go.Proofs.YtfbljmcjadfkoaaGreatDoor

/-! script.Hashes by its contract. -/
namespace Go.Proofs.YtfbljmcjadfkoaaGreatDoor
set_option maxRecDepth 100000
set_option maxHeartbeats 2000000
open Go.RowKit AmS AmD Go.Maps AmW Go
variable {l : List SOp} {o : SOp} {w : World} {base e n size : Nat} {v : Value} {xs : List Value}
def entCells3 (k v h:Int):List Value:=[.int .u64 k,.int .u64 v,.int .u64 h]
def hashCells (l:List SOp):List Value:=l.flatMap fun o=>entCells3 o.key 0 o.hash
theorem hashCells_length (l:List SOp):(hashCells l).length=l.length*3:=by
 induction l with
 |nil=>rfl
 |cons o t ih=>
  have:(hashCells (o::t)).length=3+(hashCells t).length:=by simp[hashCells,entCells3];omega
  rw[this,ih,List.length_cons];omega
def cntF (l:List SOp)(y:Int):Option Int:=if cnt l y=0 then none else some (cnt l y:Int)
structure HashAt (w:World)(l:List SOp)(k:Nat)(v:Value)(wr:World):Prop where
 out:wr.ownsRow (w.heap.size+1) 199 3 v (firsts (l.take k)).length (hashCells (firsts (l.take k)))
 map:MapFn wr Tryz.prog 72 3 .u64 .i64 w.heap.size k (cntF (l.take k))
 below:Below w.heap.size w wr
 size:w.heap.size+1≤wr.heap.size
def HashPost (w:World)(l:List SOp)(e:Ending)(w':World):Prop:=
 ∃v,e= .returned v∧w'.ownsRow w.heap.size 199 3 v (firsts l).length (hashCells (firsts l))∧Below w.heap.size w w'
end Go.Proofs.YtfbljmcjadfkoaaGreatDoor

/-! strings.Builder's writing methods by their contracts (this release's copyCheck). -/
namespace Go.Proofs.YtfbljmcjadfkoaaGreatDoor
set_option maxRecDepth 100000
set_option maxHeartbeats 2000000
open Go.RowKit AmS AmD Go.Maps AmW Go
variable {B b : Nat} {l : List UInt8} {w w' : World}
def TxtAt (B b:Nat)(l:List UInt8)(w:World):Prop:=Lib.IsBuilder 135 5 B b (Lib.byteCells l) w
theorem TxtAt.new (w:World):TxtAt w.heap.size w.heap.size [] (w.alloc (.cells #[.pointer none,.slice none 0 0] 135)):=Lib.fresh_isBuilder _ _ w
theorem TxtAt.parts (h:TxtAt B b l w):∃p,Lib.BuilderAt 135 5 B b p (Lib.byteCells l) w:=by
 rcases h with h|h
 ·exact⟨_,h⟩
 ·exact⟨_,h⟩
theorem txtAt_grown {T e:Nat}{p:Value}{bs:List Value}(h:Lib.BuilderAt T e B b p bs w)(hb:Below w.heap.size w w'):Lib.BuilderAt T e B b p bs w':=by
 have hlt:=h.lt;obtain⟨hB,v,h1,h2,h3⟩:=h;exact⟨hB,v,(hb.block b hlt).trans h1,own_below h2 hb (Nat.le_refl _),h3⟩
theorem TxtAt.below (h:TxtAt B b l w)(hb:Below w.heap.size w w'):TxtAt B b l w':=by
 rcases h with h|h
 ·exact .inl (txtAt_grown h hb)
 ·exact .inr (txtAt_grown h hb)
theorem TxtAt.alloc (h:TxtAt B b l w)(o:Obj):TxtAt B b l (w.alloc o):=h.below ((Below.refl _ _).alloc (Nat.le_refl _) o)
theorem TxtAt.le (h:TxtAt B b l w):B≤w.heap.size:=by
 obtain⟨p,h1⟩:=h.parts;have:=h1.lt;have:=h1.1;omega
end Go.Proofs.YtfbljmcjadfkoaaGreatDoor

/-! Figures of base 16: strconv.FormatUint(n, 16) and words.Hex by their contracts. -/
namespace Go.Proofs.YtfbljmcjadfkoaaGreatDoor
set_option maxRecDepth 100000
set_option maxHeartbeats 2000000
open Go.RowKit AmS AmD Go.Maps AmW Go
variable {w wr : World} {i n u : Nat} {done : List UInt8} {cs : Array Value}
structure Fmt16 (w wr:World)(n u:Nat)(done:List UInt8)(cs:Array Value):Prop where
 len:done.length≤15
 lt:u<16^(16-done.length)
 eq:hexF (16-done.length) u++done=hexs n
 blk:Blk wr w.heap.size 228 cs
 size:cs.size=65
 cells:cs.toList.drop (65-done.length)=done.map (fun b=>Value.int .u8 (b.toNat:Int))
 below:Below w.heap.size w wr
theorem Fmt16.cell (h:Fmt16 w wr n u done cs)(hi:i<65):∃v,wr.cell? ⟨w.heap.size,i,none⟩=some v:=by
 rw[h.blk.cell];exact⟨cs[i]'(by rw[h.size];exact hi),Array.getElem?_eq_getElem _⟩
theorem Fmt16.lay (h:Fmt16 w wr n u done cs)(hi:65-done.length=i+1)(b:UInt8):
  Blk (wr.setCell ⟨w.heap.size,i,none⟩ (.int .u8 (b.toNat:Int))) w.heap.size 228 (cs.setIfInBounds i (.int .u8 (b.toNat:Int)))∧
  (cs.setIfInBounds i (.int .u8 (b.toNat:Int))).toList.drop i=(b::done).map (fun b=>Value.int .u8 (b.toNat:Int))∧Below w.heap.size w (wr.setCell ⟨w.heap.size,i,none⟩ (.int .u8 (b.toNat:Int))):=by
 have hsz:=h.size;have hl:=h.len;refine⟨h.blk.set_ i _, ?_,h.below.setCell (p:=⟨w.heap.size,i,none⟩) (Nat.le_refl _) _⟩
 have hil:i<cs.toList.length:=by simp;omega
 rw[Array.toList_setIfInBounds,List.drop_eq_getElem_cons (by simpa using hil)];rw[List.getElem_set_self,List.map_cons];congr 1;rw[List.drop_set_of_lt (by omega),←hi];exact h.cells
theorem Fmt16.next (h:Fmt16 w wr n u done cs)(hu:16≤u)(hi:65-done.length=i+1):
  Fmt16 w (wr.setCell ⟨w.heap.size,i,none⟩ (.int .u8 ((hexD (u % 16)).toNat:Int))) n (u/16) (hexD (u % 16)::done) (cs.setIfInBounds i (.int .u8 ((hexD (u % 16)).toNat:Int))):=by
 obtain⟨h1,h2,h3⟩:=h.lay hi (hexD (u % 16))
 have hl:done.length<15:=by
  rcases Nat.lt_or_ge done.length 15 with q|q
  ·exact q
  ·have e:16-done.length=1:=by have:=h.len;omega
   have:=h.lt;rw[e]at this;omega
 obtain⟨f,hf⟩:∃f,16-done.length=f+1:=⟨15-done.length,by omega⟩
 have hf':16-(hexD (u % 16)::done).length=f:=by rw[List.length_cons];omega
 refine⟨by rw[List.length_cons];omega, ?_, ?_,h1,by simpa using h.size, ?_,h3⟩
 ·rw[hf'];have:=h.lt;rw[hf,Nat.pow_succ]at this;exact Nat.div_lt_of_lt_mul (by rw[Nat.mul_comm];exact this)
 ·rw[hf',←h.eq,hf,hexF_big f u hu];simp
 ·have e:65-(hexD (u % 16)::done).length=i:=by rw[List.length_cons];omega
  rw[e];exact h2
theorem Fmt16.last (h:Fmt16 w wr n u done cs)(hu:u<16)(hi:65-done.length=i+1):
  hexs n=hexD u::done∧(hexs n).length=65-i∧(∀j (hj:j<(hexs n).length),(wr.setCell ⟨w.heap.size,i,none⟩ (.int .u8 ((hexD u).toNat:Int))).cell? ((⟨w.heap.size,i,none⟩:Addr).add j)=some (.int .u8 ((hexs n)[j].toNat:Int)))∧
  Below w.heap.size w (wr.setCell ⟨w.heap.size,i,none⟩ (.int .u8 ((hexD u).toNat:Int))):=by
 obtain⟨h1,h2,h3⟩:=h.lay hi (hexD u)
 have e:hexs n=hexD u::done:=by rw[←h.eq,hexF_small _ _ hu];rfl
 have hl:=h.len;refine⟨e,by rw[e,List.length_cons];omega,fun j hj=> ?_,h3⟩
 have hadd:(⟨w.heap.size,i,none⟩:Addr).add j=⟨w.heap.size,i+j,none⟩:=by unfold Addr.add;split<;>simp_all
 rw[hadd,h1.cell]
 have h4:((cs.setIfInBounds i (.int .u8 ((hexD u).toNat:Int))).toList.drop i)[j]?=some (.int .u8 ((hexs n)[j].toNat:Int)):=by
  rw[h2];simp only[←e,List.getElem?_map];rw[List.getElem?_eq_getElem hj];rfl
 rw[List.getElem?_drop]at h4;rw[←Array.getElem?_toList];exact h4
theorem Fmt16.start (w:World)(n:Nat)(hn:n<18446744073709551616)(cs:Array Value)(hc:cs.size=65):Fmt16 w (w.alloc (.cells cs 228)) n n [] cs:=
 ⟨by simp,by simpa using hn,by simp[hexs],Blk.new _ _ _,hc,by rw[List.drop_eq_nil_of_le (by simp[hc])];rfl,(Below.refl _ _).alloc (Nat.le_refl _) _⟩
end Go.Proofs.YtfbljmcjadfkoaaGreatDoor

/-! words.fine and words.Split by their contracts: line by line, as goSplit. -/
namespace Go.Proofs.YtfbljmcjadfkoaaGreatDoor
set_option maxRecDepth 100000
set_option maxHeartbeats 2000000
open Go.RowKit AmS AmD Go.Maps AmW Go
end Go.Proofs.YtfbljmcjadfkoaaGreatDoor

/-! words.Split by its contract: line by line, as goSplit. -/
namespace Go.Proofs.YtfbljmcjadfkoaaGreatDoor
set_option maxRecDepth 100000
set_option maxHeartbeats 2000000
open Go.RowKit AmS AmD Go.Maps AmW Go
variable {E : Nat → Addr} {w : World}
def CutIs (l:(List UInt8))(b:ByteArray):Prop:=b.data.toList=l
def CutPost (w:World)(l:(List UInt8))(e:Ending)(w':World):Prop:=∃(b:ByteArray) (r2:Value) (r3:Bool) (n:Nat),CutIs l b∧e= .returned (.tuple #[.string b,r2,.bool r3])∧w.drewN n=w'
end Go.Proofs.YtfbljmcjadfkoaaGreatDoor

/-! words.Split of a text that is not too long, by its contract. -/
namespace Go.Proofs.YtfbljmcjadfkoaaGreatDoor
set_option maxRecDepth 100000
set_option maxHeartbeats 2000000
open Go.RowKit AmS AmD Go.Maps AmW Go
theorem add_zero (acc:List (Nat×List (List UInt8)))(n:Nat):add acc n []=acc:=rfl
end Go.Proofs.YtfbljmcjadfkoaaGreatDoor

/-! amblernum.SameTexts of two rows that read alike. -/
namespace Go.Proofs.YtfbljmcjadfkoaaGreatDoor
set_option maxRecDepth 100000
set_option maxHeartbeats 2000000
open Go.RowKit AmS AmD Go.Maps AmW Go
end Go.Proofs.YtfbljmcjadfkoaaGreatDoor

/-! amblerlaw30.alive: the chapter's example. -/
namespace Go.Proofs.YtfbljmcjadfkoaaGreatDoor
set_option maxRecDepth 100000
set_option maxHeartbeats 2000000
open Go.RowKit AmS AmD Go.Maps AmW Go
variable {E : Nat → Addr} {w w' : World} {B : Nat}
def exText:Bts:=[112,117,116,32,49,32,32,48,120,50,32,35,32,120]
def exRow:List Bts:=[[112,117,116],[49],[48,120,50]]
end Go.Proofs.YtfbljmcjadfkoaaGreatDoor

/-! amblerref30.Number by its contract: which words are which numbers, by the document. -/
namespace Go.Proofs.YtfbljmcjadfkoaaGreatDoor
set_option maxRecDepth 100000
set_option maxHeartbeats 2000000
open Go.RowKit AmS AmD Go.Maps AmW Go
variable {k n : Nat} {c : UInt8} {l : List UInt8} {b s : ByteArray}
def hexIx (c:UInt8):Int:=if isHex c then(hexV c:Int)else-1
def hexIxTo (k:Nat)(c:UInt8):Int:=if isHex c∧hexV c<k then(hexV c:Int)else-1
def tab16:ByteArray:=⟨#[48,49,50,51,52,53,54,55,56,57,97,98,99,100,101,102]⟩
def Ref16Post (w:World)(r:Option Nat)(e:Ending)(w':World):Prop:=
 match r with
 |some n=>e= .returned (.tuple #[.int .u64 n,.bool false,.bool true])∧Below w.heap.size w w'
 |none=>e= .returned (.tuple #[.int .u64 0,.bool false,.bool false])∧Below w.heap.size w w'
def Ref10Post (w:World)(r:Option Nat)(e:Ending)(w':World):Prop:=
 match r with
 |some n=>e= .returned (.tuple #[.int .u64 n,.bool true,.bool true])∧Below w.heap.size w w'
 |none=>∃m,e= .returned (.tuple #[.int .u64 m,.bool true,.bool false])∧Below w.heap.size w w'
structure At16 (l:List UInt8)(k n:Nat):Prop where
 all:∀b∈l.take k,isHex b=true
 val:n=val16 0 (l.take k)
 len:k=0∨l.length≤16
theorem At16.next (h:At16 l k n)(hk:k<l.length)(hc:isHex l[k]=true)(hl:l.length≤16):At16 l (k+1) (n*16+hexV l[k]):=by
 refine⟨fun b hb=> ?_, ?_,.inr hl⟩
 ·rw[List.take_succ_eq_append_getElem hk]at hb;rcases List.mem_append.1 hb with hb|hb
  ·exact h.all b hb
  ·obtain rfl:b=l[k]:=by simpa using hb
   exact hc
 ·rw[List.take_succ_eq_append_getElem hk,val16_append,←h.val];rw[val16_cons,val16_nil]
theorem At16.lt (h:At16 l k n):n<16^k:=by
 have:=val16_lt (l.take k) 0 0 h.all (by decide);rw[h.val];refine Nat.lt_of_lt_of_le this (Nat.pow_le_pow_right (by decide) ?_);simp;omega
structure At10 (l:List UInt8)(k n:Nat):Prop where
 all:∀b∈l.take k,isDig b=true
 val:n=val10 0 (l.take k) % 18446744073709551616
theorem At10.next (h:At10 l k n)(hk:k<l.length)(hc:isDig l[k]=true):At10 l (k+1) ((n*10+(l[k].toNat-48)) % 18446744073709551616):=by
 refine⟨fun b hb=> ?_, ?_⟩
 ·rw[List.take_succ_eq_append_getElem hk]at hb;rcases List.mem_append.1 hb with hb|hb
  ·exact h.all b hb
  ·obtain rfl:b=l[k]:=by simpa using hb
   exact hc
 ·rw[List.take_succ_eq_append_getElem hk,val10_append,val10_cons,val10_nil,h.val];omega
end Go.Proofs.YtfbljmcjadfkoaaGreatDoor

/-! amblerref30.Hex and words.Join by their contracts. -/
namespace Go.Proofs.YtfbljmcjadfkoaaGreatDoor
set_option maxRecDepth 100000
set_option maxHeartbeats 2000000
open Go.RowKit AmS AmD Go.Maps AmW Go
variable {f n u : Nat} {o : ByteArray} {w : World} {A : Option Addr}
theorem bdata_append (a b:ByteArray):(a++b).data.toList=a.data.toList++b.data.toList:=by simp
structure HexAt (n u f:Nat)(o:ByteArray):Prop where
 lt:u<16^(f+1)
 le:f≤16
 eq:hexF f u++o.data.toList=hexs n
 top:u≤n
theorem HexAt.size (h:HexAt n u f o):o.size≤17:=by
 have h1:=congrArg List.length h.eq;have h2:=hexs_length n
 have h3:o.data.toList.length=o.size:=by simp
 rw[List.length_append]at h1;omega
theorem HexAt.next {e:ByteArray}(h:HexAt n u f o)(h16:16≤u)(he:e.data.toList=[hexD (u % 16)]):∃f',HexAt n (u/16) f' (e++o):=by
 cases f with
 |zero=>have:=h.lt;simp at this;omega
 |succ f=>
  refine⟨f, ?_,by have:=h.le;omega, ?_,Nat.le_trans (Nat.div_le_self _ _) h.top⟩
  ·have:=h.lt;rw[Nat.pow_succ]at this;exact Nat.div_lt_of_lt_mul (by rw[Nat.mul_comm];exact this)
  ·rw[←h.eq,hexF_big f u h16,bdata_append,he];simp
end Go.Proofs.YtfbljmcjadfkoaaGreatDoor

/-! amblerref30.Split by its contract: byte by byte, as refGo. -/
namespace Go.Proofs.YtfbljmcjadfkoaaGreatDoor
set_option maxRecDepth 100000
set_option maxHeartbeats 2000000
open Go.RowKit AmS AmD Go.Maps AmW Go
def Ref30Post (w:World)(r:Res)(e:Ending)(w':World):Prop:=
 match r with
 | .bad n=>e= .returned (.tuple #[.slice none 0 0,.slice none 0 0,.int .i64 (n:Int),.int .i64 3])∧Below w.heap.size w w'
 | .ok l=>∃vn va vr,e= .returned (.tuple #[vn,va,.int .i64 0,.int .i64 0])∧Ref30 w w' vn va vr l []
def At30 (s:ByteArray)(R:Res)(i:Nat)(acc:List (Nat×List (List UInt8)))(row:List (List UInt8))(word:(List UInt8))(remark:Bool)(n:Nat):Prop:=
 (i≤s.size∧refGo acc row word remark n (s.data.toList.drop i)=R)∨(i=s.size+1∧row=[]∧R= .ok acc)
theorem data_append (a b:ByteArray):(a++b).data.toList=a.data.toList++b.data.toList:=by simp
end Go.Proofs.YtfbljmcjadfkoaaGreatDoor

/-! The number of an error of package api (amblernum.Num). -/
namespace Go.Proofs.YtfbljmcjadfkoaaGreatDoor
set_option maxRecDepth 100000
set_option maxHeartbeats 2000000
open Go.RowKit AmS AmD Go.Maps AmW Go
end Go.Proofs.YtfbljmcjadfkoaaGreatDoor

/-! amblerlaw30.WordsSplits: its walk: whatever the text, true. -/
namespace Go.Proofs.YtfbljmcjadfkoaaGreatDoor
set_option maxRecDepth 100000
set_option maxHeartbeats 2000000
open Go.RowKit AmS AmD Go.Maps AmW Go
variable {w : World} {base i n : Nat} {v : Value}
theorem IntsOwn.at_ {l:List Nat}(h:IntsOwn w base v l)(hn:l[i]?=some n):
  ∃g c,v= .slice (some ⟨g,0,none⟩) l.length c∧g<w.heap.size∧w.cell? ⟨g,i,none⟩=some (.int .i64 (n:Int)):=by
 have hi:i<l.length:=(List.getElem?_eq_some_iff.1 hn).1;obtain⟨g,cap,rfl,hg,hlt⟩:=h.form (by omega);have hc:=h.cells (g:=g) rfl i (.int .i64 (n:Int)) (by rw[List.getElem?_map,hn];rfl)
 have hadd:∀j,(⟨g,0,none⟩:Addr).add j=⟨g,j,none⟩:=fun j=>by unfold Addr.add;split<;>simp_all
 rw[hadd]at hc;exact⟨g,cap,rfl,hlt,hc⟩
theorem RowsOwn.at_ {x:Value}{l:List (List Bts)}(h:RowsOwn w base v x l){r:List Bts}(hr:l[i]?=some r):
  ∃g c A c',v= .slice (some ⟨g,0,none⟩) l.length c∧g<w.heap.size∧w.cell? ⟨g,i,none⟩=some (.slice A r.length c')∧Reads w w.heap.size 1 A r.length (r.map strV):=by
 obtain⟨vs,h1,h2,_⟩:=h;have hi:i<l.length:=(List.getElem?_eq_some_iff.1 hr).1;obtain⟨u,hu,hs⟩:=h2 i r hr;obtain⟨g,cap,rfl,hg,hlt⟩:=h1.form (by omega);obtain⟨A,c',rfl⟩:=own_form hs;have hc:=h1.cells (g:=g) rfl i _ hu
 have hadd:∀j,(⟨g,0,none⟩:Addr).add j=⟨g,j,none⟩:=fun j=>by unfold Addr.add;split<;>simp_all
 rw[hadd]at hc;exact⟨g,cap,A,c',rfl,hlt,hc,Reads.of_own hs⟩
def LawTrue (w:World)(e:Ending)(w':World):Prop:=e= .returned (.bool true)∧Below w.heap.size w w'
end Go.Proofs.YtfbljmcjadfkoaaGreatDoor

/-! script.Of by its contract. -/
namespace Go.Proofs.YtfbljmcjadfkoaaGreatDoor
set_option maxRecDepth 100000
set_option maxHeartbeats 2000000
open Go.RowKit AmS AmD Go.Maps AmW Go
variable {w w' : World} {base n : Nat} {o : SOp} {v : Value} {E : Nat → Addr} {r : Except (Nat × Nat) (List SOp)}
def OpsOwn (w:World)(base:Nat)(v:Value)(l:List SOp):Prop:=w.ownsRow base 74 5 v l.length (opsCells l)
theorem OpsOwn.reads {c:Nat}{A:Option Addr}{l:List SOp}(h:OpsOwn w base (.slice A n c) l):n=l.length∧Reads w w.heap.size 5 A l.length (opsCells l):=by
 have hn:n=l.length:=by
  have:=own_form h;obtain⟨A',c',e⟩:=this;injection e
 subst hn;exact⟨rfl,Reads.of_own h⟩
theorem opsCells_snoc (l:List SOp)(o:SOp):opsCells (l++[o])=opsCells l++opCells o:=by simp[opsCells]
theorem OpsOwn.append {v':Value}{l:List SOp}(hown:w'.ownsRow base 74 5 v' (l.length+1) (opsCells l++opCells o)):OpsOwn w' base v' (l++[o]):=by
 unfold OpsOwn;rw[List.length_append,opsCells_snoc];exact hown
theorem OpsOwn.below {w1:World}{B:Nat}{l:List SOp}(h:OpsOwn w base v l)(hb:Below B w w1)(hB:w.heap.size≤B):OpsOwn w1 base v l:=own_below h hb hB
def OfPost (E:Nat→Addr)(w:World)(r:Except (Nat×Nat) (List SOp))(e:Ending)(w':World):Prop:=
 match r with
 | .error p=>e= .returned (.tuple #[.slice none 0 0,.int .i64 (p.1:Int),.iface 372 (.pointer (some (E p.2)))])∧Below w.heap.size w w'
 | .ok ops=>∃v,e= .returned (.tuple #[v,.int .i64 0,.nilIface])∧OpsOwn w' w.heap.size v ops∧Below w.heap.size w w'
structure OfAt (w W:World)(L:List (Nat×List AmW.Bytes))(R:Except (Nat×Nat) (List SOp))(k:Nat)(ops:List SOp)(v:Value)(wr:World):Prop where
 own:OpsOwn wr W.heap.size v ops
 rest:ofGo ops (L.drop k)=R
 len:ops.length=k
 below:Below W.heap.size W wr
end Go.Proofs.YtfbljmcjadfkoaaGreatDoor

/-! The reference's words and its search for another hash, two lists of entries, and the chapter's example: by their contracts. -/
namespace Go.Proofs.YtfbljmcjadfkoaaGreatDoor
set_option maxRecDepth 100000
set_option maxHeartbeats 2000000
open Go.RowKit AmS AmD Go.Maps AmW Go
variable {w w' : World} {r : Option Nat}
theorem ref_Words (w:World):Calls Tryz.prog 14 #[] w fun e w'=>e= .returned (.slice (some ⟨w.heap.size,0,none⟩) 9 9)∧w.alloc (.cells (names.map strV).toArray 9)=w':=by
 go_in;go_wp2;go_ret;exact⟨rfl,rfl⟩
def OtherPost (w:World)(r:Option Nat)(e:Ending)(w':World):Prop:=
 (match r with
  |some i=>e= .returned (.int .i64 (i:Int))
  |none=>e= .returned (.int .i64 (-1)))∧Below w.heap.size w w'
structure Clear (l:List SOp)(o:SOp)(j:Nat):Prop where
 none:(l.take j).any (clash o)=false
end Go.Proofs.YtfbljmcjadfkoaaGreatDoor

/-! The chapter's example (amblerlaw31.alive), amblerlaw31.Of, and two lists of entries: by their contracts. -/
namespace Go.Proofs.YtfbljmcjadfkoaaGreatDoor
set_option maxRecDepth 100000
set_option maxHeartbeats 2000000
open Go.RowKit AmS AmD Go.Maps AmW Go
def exScript:Bts:=[112,117,116,32,49,32,50,32,48,120,51]
theorem hashCells_get (l:List SOp)(k:Nat)(o:SOp)(h:l[k]?=some o):
  (hashCells l)[k*3]?=some (.int .u64 o.key)∧(hashCells l)[k*3+1]?=some (.int .u64 0)∧(hashCells l)[k*3+2]?=some (.int .u64 o.hash):=by
 have hk:k<l.length:=(List.getElem?_eq_some_iff.1 h).1
 have hl:l=l.take k++o::l.drop (k+1):=by
  have h1:=(List.getElem?_eq_some_iff.1 h).2;rw[←h1,←List.drop_eq_getElem_cons hk,List.take_append_drop]
 have e:hashCells l=hashCells (l.take k)++(entCells3 o.key 0 o.hash++hashCells (l.drop (k+1))):=by
  conv=>lhs;rw[hl]
  simp[hashCells]
 have hlen:(hashCells (l.take k)).length=k*3:=by rw[hashCells_length,List.length_take];rw[Nat.min_eq_left (by omega)]
 have H:∀j,j<3→(hashCells l)[k*3+j]?=(entCells3 o.key 0 o.hash)[j]?:=by
  intro j hj;rw[e,List.getElem?_append_right (by omega),hlen,List.getElem?_append_left (by simp[entCells3];omega)];congr 1;omega
 exact⟨H 0 (by omega),H 1 (by omega),H 2 (by omega)⟩
theorem ent_cellsB {wr:World}{B:Nat}{A:Option Addr}{n k:Nat}{l:List SOp}{o:SOp}(h:Reads wr B 3 A n (hashCells l))(ho:l[k]?=some o):∃b off,A=some ⟨b,off,none⟩∧b<B∧
  wr.cell? ⟨b,off+k*3,none⟩=some (.int .u64 o.key)∧wr.cell? ⟨b,off+k*3+1,none⟩=some (.int .u64 0)∧wr.cell? ⟨b,off+k*3+2,none⟩=some (.int .u64 o.hash):=by
 have hk:k<l.length:=(List.getElem?_eq_some_iff.1 ho).1
 have hn:0<n:=by have:=h.1;rw[hashCells_length]at this;omega
 obtain⟨b,off,rfl,hb,hc⟩:=h.cells_ hn;obtain⟨o0,o1,o2⟩:=hashCells_get l k o ho;exact⟨b,off,rfl,hb,hc _ _ o0,hc _ _ o1,hc _ _ o2⟩
end Go.Proofs.YtfbljmcjadfkoaaGreatDoor

/-! amblerlaw31.ScriptOps: its walk: whatever the operations and the kind, true. -/
namespace Go.Proofs.YtfbljmcjadfkoaaGreatDoor
set_option maxRecDepth 100000
set_option maxHeartbeats 2000000
open Go.RowKit AmS AmD Go.Maps AmW Go
structure There (f:List SOp)(o:SOp)(j:Nat)(b:Bool):Prop where
 is:(f.take j).any (fun e=>e.key==o.key)=b
end Go.Proofs.YtfbljmcjadfkoaaGreatDoor

/-! amblerref32.Right by its contract. -/
namespace Go.Proofs.YtfbljmcjadfkoaaGreatDoor
set_option maxRecDepth 100000
set_option maxHeartbeats 2000000
open Go.RowKit AmS AmD Go.Maps AmW Go
end Go.Proofs.YtfbljmcjadfkoaaGreatDoor

/-! The plain law of operations as a script's lines, and of the text that is parsed to them. No program in sight. -/
namespace Go.Proofs.YtfbljmcjadfkoaaGreatDoor.AmS
set_option maxRecDepth 100000
set_option maxHeartbeats 2000000
open Go.RowKit AmS AmD Go.Maps AmW Go
variable {o : SOp}
def hx (n:Int):(List UInt8):=48::120::hexs n.toNat
def parts (o:SOp):List (List UInt8):=
 wordOf o.kind::(if o.kind=1∨o.kind=3 then [hx o.key,hx o.hash]else if o.kind=2 then [hx o.key,hx o.val,hx o.hash]else if o.kind=7∨o.kind=8 then [digits o.iter.toNat]else [])
def lineOf (o:SOp):(List UInt8):=Lib.join (parts o) [32]
def longOf (l:List SOp):Nat:=(l.map fun o=>if rightB o then(lineOf o).length+1 else 0).sum
def wrong (l:List SOp):Option Nat:=l.findIdx? fun o=> !rightB o
def textOf (l:List SOp):(List UInt8):=(l.map fun o=>lineOf o++[10]).flatten
def textE (l:List SOp):Except (Nat×Nat) (List UInt8):=
 if 2000<l.length then .error (0,9)else
 match wrong l with
 |some i=> .error (i,3)
 |none=>match other l with
  |some i=> .error (i,8)
  |none=>if 60000<(textOf l).length then .error (0,9)else .ok (textOf l)
def fits (o:SOp):Prop:=0≤o.key∧o.key<18446744073709551616∧0≤o.val∧o.val<18446744073709551616∧0≤o.hash∧o.hash<18446744073709551616
def rowsOf:Nat→List SOp→List (Nat×List (List UInt8))
 |_,[]=> []
 |n,o::t=>(n,parts o)::rowsOf (n+1) t
def textS (l:List SOp):Except (Nat×Nat) (List UInt8):=
 match wrong l with
 |some i=> .error (i,3)
 |none=>match other l with
  |some i=> .error (i,8)
  |none=> .ok (textOf l)
end Go.Proofs.YtfbljmcjadfkoaaGreatDoor.AmS

/-! amblerref32.Line by its contract. -/
namespace Go.Proofs.YtfbljmcjadfkoaaGreatDoor
set_option maxRecDepth 100000
set_option maxHeartbeats 2000000
open Go.RowKit AmS AmD Go.Maps AmW Go
def RLinePost (w:World)(o:SOp)(e:Ending)(w':World):Prop:=
 (if rightB o then e= .returned (.tuple #[strV (lineOf o),.int .i64 0])else e= .returned (.tuple #[.string ⟨#[]⟩,.int .i64 3]))∧Below w.heap.size w w'
end Go.Proofs.YtfbljmcjadfkoaaGreatDoor
