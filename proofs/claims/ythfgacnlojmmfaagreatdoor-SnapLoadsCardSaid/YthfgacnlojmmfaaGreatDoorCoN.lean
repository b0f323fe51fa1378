/- The same for what a call keeps. No statement of the claim. -/
import Derived.Test.YthfgacnlojmmfaaGreatDoorCoM
import Derived.Test.YthfgacnlojmmfaaGreatDoorLaneP
import Derived.Laws.Closers25b
import Derived.Deep.LoopGhost
import Derived.OrdersHeld
import Derived.Lib.Hide
import Derived.RowKit
namespace Go.Proofs.YthfgacnlojmmfaaGreatDoor
set_option maxRecDepth 100000
set_option maxHeartbeats 4000000
open Go.RowKit AmC Go
theorem qM {A B:Prop}{C:List Nat→Prop}{S:List Nat}{w w':World}[i:Md A w w' B C](hm:Mod S w w')(h:Hid A)(hs:C S:=by simp<;>omega):Hid B:=Lib.hid (i.md h.out hm hs)
theorem qB {A B:Prop}{C:List Nat→Prop}{w w':World}[i:Md A w w' B C](hb:Below w.heap.size w w')(h:Hid A)(hs:C []:=by simp):Hid B:=Lib.hid (i.md h.out (Mod.of_below hb []) hs)
theorem nameM {p:World→Prop}{w w1:World}{b:Nat}{S:List Nat}{t:TypeId}{cs:Array Value}(h:Blk w b t cs)(hm:Mod S w1 w)(h2:∀v,Blk v b t cs∧Mod S w1 v→p v):p w:=h2 w ⟨h,hm⟩
theorem qT {S:List Nat}{w w1 w2:World}(h:Hid (Mod S w w1))(hb:Below w1.heap.size w1 w2):Hid (Mod S w w2):=Lib.hid (h.out.then (Mod.of_below hb _))
theorem qU {T U:List Nat}{w w1 w2:World}(h1:Hid (Mod U w w1))(h2:Mod T w1 w2)(hT:∀k,k∈T→k<w.heap.size→k∈U:=by intro k hk hl;simp at hk⊢<;>omega):Hid (Mod U w w2):=Lib.hid (h1.out.trans h2 (fun _ hh _=>hh) hT)
theorem qS1 {p:World→Prop}{w:World}{b:Nat}{t:TypeId}{cs:Array Value}{i0:Nat}{v0:Value}(h:Blk w b t cs)(k:∀v,Blk v b t (cs.setIfInBounds i0 v0)∧Mod [b] w v→p v):p (w.setCell ⟨b,i0,none⟩ v0):=k _ ⟨(h.set_ i0 v0),((Mod.refl [b] w).set_ (.inl (by simp)) i0 v0)⟩
theorem qS2 {p:World→Prop}{w:World}{b:Nat}{t:TypeId}{cs:Array Value}{i0 i1:Nat}{v0 v1:Value}(h:Blk w b t cs)(k:∀v,Blk v b t ((cs.setIfInBounds i0 v0).setIfInBounds i1 v1)∧Mod [b] w v→p v):p ((w.setCell ⟨b,i0,none⟩ v0).setCell ⟨b,i1,none⟩ v1):=k _ ⟨((h.set_ i0 v0).set_ i1 v1),(((Mod.refl [b] w).set_ (.inl (by simp)) i0 v0).set_ (.inl (by simp)) i1 v1)⟩
theorem qS3 {p:World→Prop}{w:World}{b:Nat}{t:TypeId}{cs:Array Value}{i0 i1 i2:Nat}{v0 v1 v2:Value}(h:Blk w b t cs)(k:∀v,Blk v b t (((cs.setIfInBounds i0 v0).setIfInBounds i1 v1).setIfInBounds i2 v2)∧Mod [b] w v→p v):p (((w.setCell ⟨b,i0,none⟩ v0).setCell ⟨b,i1,none⟩ v1).setCell ⟨b,i2,none⟩ v2):=k _ ⟨(((h.set_ i0 v0).set_ i1 v1).set_ i2 v2),((((Mod.refl [b] w).set_ (.inl (by simp)) i0 v0).set_ (.inl (by simp)) i1 v1).set_ (.inl (by simp)) i2 v2)⟩
theorem qS7 {p:World→Prop}{w:World}{b:Nat}{t:TypeId}{cs:Array Value}{i0 i1 i2 i3 i4 i5 i6:Nat}{v0 v1 v2 v3 v4 v5 v6:Value}(h:Blk w b t cs)(k:∀v,Blk v b t (((((((cs.setIfInBounds i0 v0).setIfInBounds i1 v1).setIfInBounds i2 v2).setIfInBounds i3 v3).setIfInBounds i4 v4).setIfInBounds i5 v5).setIfInBounds i6 v6)∧Mod [b] w v→p v):p (((((((w.setCell ⟨b,i0,none⟩ v0).setCell ⟨b,i1,none⟩ v1).setCell ⟨b,i2,none⟩ v2).setCell ⟨b,i3,none⟩ v3).setCell ⟨b,i4,none⟩ v4).setCell ⟨b,i5,none⟩ v5).setCell ⟨b,i6,none⟩ v6):=k _ ⟨(((((((h.set_ i0 v0).set_ i1 v1).set_ i2 v2).set_ i3 v3).set_ i4 v4).set_ i5 v5).set_ i6 v6),((((((((Mod.refl [b] w).set_ (.inl (by simp)) i0 v0).set_ (.inl (by simp)) i1 v1).set_ (.inl (by simp)) i2 v2).set_ (.inl (by simp)) i3 v3).set_ (.inl (by simp)) i4 v4).set_ (.inl (by simp)) i5 v5).set_ (.inl (by simp)) i6 v6)⟩
theorem Mod.sl {b:Nat}{S:List Nat}{w w':World}(h:Mod (b::S) w w')(o:Nat)(u:Value):Mod (b::S) w (w'.setCell ⟨b,o,none⟩ u):=h.set_ (.inl (by simp)) o u
def swapZ (x d m:Int):Int:=bits .or .u64 (bits .and .u64 (x/d) m) (IntKind.u64.wrap (bits .and .u64 x m*d))
def revBZ (x:Int):Int:=bits .or .u64 (swapZ (swapZ x 256 71777214294589695) 65536 281470681808895/4294967296) (IntKind.u64.wrap (swapZ (swapZ x 256 71777214294589695) 65536 281470681808895*4294967296))
def revZ (x:Int):Int:=revBZ (swapZ (swapZ (swapZ x 2 6148914691236517205) 4 3689348814741910323) 16 1085102592571150095)
def fnvS (x:Int):Nat→Int×Int
 |0=>(x,14695981039346656037)
 |i+1=>((fnvS x i).1/256,IntKind.u64.wrap (bits .xor .u64 (fnvS x i).2 (bits .and .u64 (fnvS x i).1 255)*1099511628211))
def mixZ (kind:Nat)(x:Int):Int:=
 match kind with
 |0=>x
 |1=>0
 |2=>IntKind.u64.wrap (x*11400714819323198485)
 |3=>(fnvS x 8).2
 |4=>revZ x
 |_=>IntKind.u64.wrap (x*288230376151711744)
def mixH (kind key:Nat):Nat:=if key<18446744073709551616 then(mixZ kind key).toNat else 0
theorem mixZ_ok (kind key:Nat)(hk:key<18446744073709551616):0≤mixZ kind key∧mixZ kind key<18446744073709551616:=by
 have hw:=fun z:Int=>wrap_within .u64 z;have hb:=fun(o:BinOp) (a b:Int)=>bits_within o .u64 a b
 have e1:IntKind.u64.min=0:=by decide
 have e2:IntKind.u64.max=18446744073709551615:=by decide
 rw[e1,e2]at hw hb;unfold mixZ;split
 ·omega
 ·omega
 ·have:=hw ((key:Int)*11400714819323198485);omega
 ·have:=hw (bits .xor .u64 (fnvS key 7).2 (bits .and .u64 (fnvS key 7).1 255)*1099511628211);show 0≤(fnvS key 8).2∧(fnvS key 8).2<_;rw[show(fnvS key 8).2=IntKind.u64.wrap (bits .xor .u64 (fnvS key 7).2 (bits .and .u64 (fnvS key 7).1 255)*1099511628211)from rfl];omega
 ·have:=hb .or (swapZ (swapZ (swapZ (swapZ (swapZ key 2 6148914691236517205) 4 3689348814741910323) 16 1085102592571150095) 256 71777214294589695) 65536 281470681808895/4294967296) (IntKind.u64.wrap (swapZ (swapZ (swapZ (swapZ (swapZ key 2 6148914691236517205) 4 3689348814741910323) 16 1085102592571150095) 256 71777214294589695) 65536 281470681808895*4294967296));unfold revZ revBZ;omega
 ·have:=hw ((key:Int)*288230376151711744);omega
theorem mixH_eq (kind key:Nat)(hk:key<18446744073709551616):((mixH kind key:Nat):Int)=mixZ kind key∧mixH kind key<18446744073709551616:=by
 have:=mixZ_ok kind key hk;unfold mixH;rw[if_pos hk];omega
theorem mixH_lt (kind key:Nat):mixH kind key<18446744073709551616:=by
 by_cases hk:key<18446744073709551616
 ·exact(mixH_eq kind key hk).2
 ·unfold mixH;rw[if_neg hk];decide
theorem rev_bytes (x:Int)(w:World):
  Calls Tryz.prog 84 #[.int .u64 x] w fun y w'=>y= .returned (.int .u64 (revBZ x))∧w=w':=by
 unfold revBZ swapZ;go_in;go_wp2;go_ret;exact⟨rfl,rfl⟩
theorem rev_64 (x:Int)(w:World):
  Calls Tryz.prog 56 #[.int .u64 x] w fun y w'=>y= .returned (.int .u64 (revZ x))∧w=w':=by
 have HR:=qd (fun(z:Int) (W:World)=>rev_bytes z W);obtain⟨r,hr⟩:∃r,r=revZ x:=⟨_,rfl⟩;have HE:=qd hr;rw[←hr];clear hr;go_in;go_wp2_with fail;refine(HR.out _ _).mono ?_;rintro y wq ⟨rfl,rfl⟩;go_wp2;go_ret;exact⟨by rw[HE.out];rfl,rfl⟩
theorem mix_fnv (x:Int)(w:World):
  Calls Tryz.prog 55 #[.int .u64 x] w fun y w'=>y= .returned (.int .u64 (fnvS x 8).2)∧w=w':=by
 obtain⟨S,hS⟩:∃S,S=fnvS x:=⟨_,rfl⟩
 have h0:(S 0).1=x∧(S 0).2=14695981039346656037:=by rw[hS];exact⟨rfl,rfl⟩
 have H0:=qd h0;have HS:=qd (show∀i,(S (i+1)).1=(S i).1/256∧(S (i+1)).2=IntKind.u64.wrap (bits .xor .u64 (S i).2 (bits .and .u64 (S i).1 255)*1099511628211)from fun i=>by rw[hS];exact⟨rfl,rfl⟩);rw[←hS];clear hS h0;go_in;go_wp2;go_loopw [0,3,4] (fun v0 v3 v4 wr=>∃i:Nat,i≤8∧v4= .int .i64 (i:Int)∧v0= .int .u64 (S i).1∧v3= .int .u64 (S i).2∧w=wr) (fun _ _ v4 _=>8-(intOf v4).toNat)
 case atStart=>exact⟨0,by omega,rfl,by rw[H0.out.1],by rw[H0.out.2],rfl⟩
 case round=>
  obtain⟨i,hi,rfl,rfl,rfl,rfl⟩:=hrel;by_cases hlt:i<8
  ·have hlt':(i:Int)<8:=by omega
   have hwi:IntKind.i64.wrap ((i:Int)+1)=((i+1:Nat):Int):=by rw[IntKind.wrap_i64];omega
   go_wp2;go_roundw
   case measure=>simp[intOf];omega
   exact⟨i+1,by omega,rfl,by rw[(HS.out i).1],by rw[(HS.out i).2],trivial⟩
  ·obtain rfl:i=8:=by omega
   go_wp2;go_ret;exact⟨rfl,rfl⟩
theorem mix_Of (kind key:Nat)(hk:key<18446744073709551616)(h5:kind≤5)(w:World):
  Calls Tryz.prog 27 #[.int .i64 (kind:Int),.int .u64 (key:Int)] w fun y w'=>y= .returned (.tuple #[.int .u64 (mixH kind key:Int),.nilIface])∧w=w':=by
 have HF:=qd (fun(W:World)=>mix_fnv key W);have HR:=qd (fun(W:World)=>rev_64 key W);have he:=(mixH_eq kind key hk).1;obtain⟨r,hr⟩:∃r:Int,r=(mixH kind key:Int):=⟨_,rfl⟩;rw[←hr];rw[←hr]at he;clear hr
 have hc:kind=0∨kind=1∨kind=2∨kind=3∨kind=4∨kind=5:=by omega
 rcases hc with rfl|rfl|rfl|rfl|rfl|rfl
 ·have HE:=qd he;clear he;go_in;go_wp2;refine bodyPost_ret (v:= .tuple #[.int .u64 (key:Int),.nilIface]) (by simp[results,Tryz.results27,go_sem]) rfl ⟨by rw[HE.out];rfl,rfl⟩
 ·have HE:=qd he;clear he;go_in;go_wp2;refine bodyPost_ret (v:= .tuple #[.int .u64 0,.nilIface]) (by simp[results,Tryz.results27,go_sem]) rfl ⟨by rw[HE.out];rfl,rfl⟩
 ·have HE:=qd he;clear he;go_in;go_wp2;refine bodyPost_ret (v:= .tuple #[.int .u64 (IntKind.u64.wrap ((key:Int)*11400714819323198485)),.nilIface]) (by simp[results,Tryz.results27,go_sem]) rfl ⟨by rw[HE.out];rfl,rfl⟩
 ·have HE:=qd he;clear he;go_in;go_wp2_with fail;refine(HF.out _).mono ?_;rintro y wq ⟨rfl,rfl⟩;go_wp2;refine bodyPost_ret (v:= .tuple #[.int .u64 (fnvS key 8).2,.nilIface]) (by simp[results,Tryz.results27,go_sem]) rfl ⟨by rw[HE.out];rfl,rfl⟩
 ·have HE:=qd he;clear he;go_in;go_wp2_with fail;refine(HR.out _).mono ?_;rintro y wq ⟨rfl,rfl⟩;go_wp2;refine bodyPost_ret (v:= .tuple #[.int .u64 (revZ key),.nilIface]) (by simp[results,Tryz.results27,go_sem]) rfl ⟨by rw[HE.out];rfl,rfl⟩
 ·have HE:=qd he;clear he;go_in;go_wp2;refine bodyPost_ret (v:= .tuple #[.int .u64 (IntKind.u64.wrap ((key:Int)*288230376151711744)),.nilIface]) (by simp[results,Tryz.results27,go_sem]) rfl ⟨by rw[HE.out];rfl,rfl⟩
section
variable {f i : Nat} {listed : Array Bool} {a : Act} {w : World} {oi oj : Oper} {v : Value}
section
variable {P : Program} {ops : Array Oper} {Q : Exit → Act → World → Prop} {md : Region.Mode} {S : World → Prop} {n : List Nat}
def Early (n:List Nat)(listed:Array Bool):Prop:=∀k,k∈n→listed.getD k true=false
theorem early_set (hi:i∉n):Early n (listed.setIfInBounds i true)↔Early n listed:=by
 have H:∀k,k∈n→((listed.setIfInBounds i true).getD k true=false↔listed.getD k true=false):=fun k hk=>by
  have hne:i≠k:=fun h=>hi (h▸hk);rw[getD_set_ne true hne]
 exact⟨fun h k hk=>(H k hk).1 (h k hk),fun h k hk=>(H k hk).2 (h k hk)⟩
def wpAnyT (P:Program)(md:Region.Mode)(ops:Array Oper)(Q:Exit→Act→World→Prop)(S:World→Prop)(n:List Nat):Nat→Array Bool→Act→World→Prop
 |0,listed,a,w=>Region.ready md ops listed=[]∧Q .normal a w
 |f+1,listed,a,w=>
  (Region.ready md ops listed=[]→Q .normal a w)∧
  ∀i∈Region.ready md ops listed,wpOp P ops Q i (fun a' w'=>(Early n (listed.setIfInBounds i true)→S w')∧wpAnyT P md ops Q S n f (listed.setIfInBounds i true) a' w') a w
theorem wpAny_of_T:∀(f:Nat) (listed:Array Bool) (a:Act) (w:World),wpAnyT P md ops Q S n f listed a w→wpAny P md ops Q f listed a w
 |0,_,_,_,h=>h
 |f+1,_,_,_,h=>⟨h.1,fun i hi=>wpOp_mono (fun a' w' h'=>wpAny_of_T f _ a' w' h'.2) (h.2 i hi)⟩
theorem region_T {id:Nat}(S:World→Prop)(n:List Nat)(hm:P.follows .mixedOrders=true)(h:wpAnyT P .any ops Q S n ops.size (Array.replicate ops.size false) a {w with drawn:=w.drawn+1}):(Code.region id ops true).wp P Q a w:=
 wp_region_any hm (wpAny_of_T _ _ _ _ h)
def After (md:Region.Mode)(oj:Oper)(i:Nat):Prop:=∃e∈oj.after,Region.binds md e=true∧e.on=i
def Awaited (md:Region.Mode)(ops:Array Oper)(n:List Nat)(i:Nat)(listed:Array Bool):Prop:=
 ∀j oj,ops[j]?=some oj→j∈n→listed.getD j true=false→After md oj i∨∃k ok,ops[k]?=some ok∧listed.getD k true=false∧After md oj k∧After md ok i
def afterB (md:Region.Mode)(oj:Oper)(i:Nat):Bool:=oj.after.any fun e=>Region.binds md e && e.on==i
theorem after_of (h:afterB md oj i=true):After md oj i:=by
 obtain⟨e,he,hb⟩:=Array.any_eq_true'.1 h;simp only[Bool.and_eq_true,beq_iff_eq]at hb;exact⟨e,he,hb.1,hb.2⟩
def awaitedB (md:Region.Mode)(ops:Array Oper)(n:List Nat)(i:Nat)(listed:Array Bool):Bool:=
 (n.all fun k=> !listed.getD k true) && (List.range ops.size).all fun j=> !n.contains j||(match ops[j]? with
  |some oj=>afterB md oj i||(List.range ops.size).any fun k=> !listed.getD k true && afterB md oj k && (match ops[k]? with
   |some ok=>afterB md ok i
   |none=>false)
  |none=>true)
theorem awaited_of (h:awaitedB md ops n i listed=true):Early n listed∧Awaited md ops n i listed:=by
 unfold awaitedB at h;rw[Bool.and_eq_true]at h;refine⟨fun k hk=>by simpa using List.all_eq_true.1 h.1 k hk,fun j oj hj hn hl=> ?_⟩;have hlt:j<ops.size:=(Array.getElem?_eq_some_iff.1 hj).1;have h1:=List.all_eq_true.1 h.2 j (List.mem_range.2 hlt);rw[hj,show n.contains j=true by simpa using hn]at h1;simp only[Bool.not_true,Bool.false_or,Bool.or_eq_true]at h1;rcases h1 with h1|h1
 ·exact .inl (after_of h1)
 ·obtain⟨k,_,h2⟩:=List.any_eq_true.1 h1;simp only[Bool.and_eq_true,Bool.not_eq_true']at h2;obtain⟨⟨h3,h4⟩,h5⟩:=h2
  cases hk:ops[k]? with
  |none=>rw[hk]at h5;cases h5
  |some ok=>rw[hk]at h5;exact .inr ⟨k,ok,hk,h3,after_of h4,after_of h5⟩
theorem not_both {k:Nat}(h1:listed.getD k false=true)(h0:listed.getD k true=false):False:=by
 rcases Nat.lt_or_ge k listed.size with h'|h'
 ·simp[h']at h0 h1;rw[h0]at h1;cases h1
 ·simp[Array.getElem?_eq_none h']at h1
theorem not_waits {j:Nat}(hr:i∈Region.ready md ops listed)(hall:∀e∈oj.after,Region.binds md e=true→listed.getD e.on false=true):∀e∈oj.after,Region.binds md e=true→e.on≠i:=fun e he hb heq=>by
 have _:=j;have h1:=hall e he hb;have h0:=(mem_ready.1 hr).1;rw[heq]at h1;rcases Nat.lt_or_ge i listed.size with h'|h'
 ·simp[h']at h0 h1;rw[h0]at h1;cases h1
 ·simp[Array.getElem?_eq_none h']at h1
theorem takeT_first (hi:ops[i]?=some oi)(hin:i∉n)(hsel:∀(j:Nat) (o:Oper) cs b,ops[j]?=some o→o.op≠ .select cs b)(hQ:∀c a w,Q (.panic c) (a.put oi.dst v) w→Q (.panic c) a w):
  ∀(f:Nat) (listed:Array Bool) (a:Act) (w:World),
   (∀j oj,ops[j]?=some oj→j≠i→listed.getD j true=false→(∀e∈oj.after,Region.binds md e=true→e.on≠i)→oi.apart ops oj=true)→
   Early n listed→Awaited md ops n i listed→i∈Region.ready md ops listed→YieldsIf P ops S oi v a→S w→
   wpAnyT P md ops Q S n f (listed.setIfInBounds i true) (a.put oi.dst v) w→wpAnyT P md ops Q S n (f+1) listed a w:=by
 intro f
 induction f with
 |zero=>
  intro listed a w _ _ _ hr hy hS H;refine⟨(fun h=>by rw[h]at hr;cases hr),fun j hj=> ?_⟩;by_cases hji:j=i
  ·subst hji;exact hy.wpOp hi hS ⟨fun _=>hS,H⟩
  ·have:=ready_mono hj hji;rw[H.1]at this;cases this
 |succ f ih=>
  intro listed a w hfree hE hA hr hy hS H;refine⟨(fun h=>by rw[h]at hr;cases hr),fun j hj=> ?_⟩;by_cases hji:j=i
  ·subst hji;exact hy.wpOp hi hS ⟨fun _=>hS,H⟩
  ·have h1:=H.2 j (ready_mono hj hji);obtain⟨hjun,oj,hoj,hall⟩:=mem_ready.1 hj;have hnot:=not_waits (j:=j) hr hall
   have hjn:j∉n:=fun h=>by
    rcases hA j oj hoj h hjun with⟨e,he,hb,heq⟩|⟨k,ok,_,hkl,⟨e,he,hb,heq⟩,_⟩
    ·exact absurd heq (hnot e he hb)
    ·exact not_both (heq▸hall e he hb) hkl
   have hEj:Early n (listed.setIfInBounds j true):=(early_set hjn).2 hE;have hEij:Early n ((listed.setIfInBounds i true).setIfInBounds j true):=(early_set hjn).2 ((early_set hin).2 hE);have h2:=wpOp_putIf hoj (hfree j oj hoj hji hjun hnot) (fun cs b=>hsel i oi cs b hi) (fun cs b=>hsel j oj cs b hoj) hQ hy h1
   have hfree':∀k ok,ops[k]?=some ok→k≠i→(listed.setIfInBounds j true).getD k true=false→
     (∀e∈ok.after,Region.binds md e=true→e.on≠i)→oi.apart ops ok=true:=fun k ok hk hki hun hno=>by
    refine hfree k ok hk hki ?_ hno;by_cases hjk:j=k
    ·subst hjk;exact hjun
    ·rw[getD_set_ne true hjk]at hun;exact hun
   have hA':Awaited md ops n i (listed.setIfInBounds j true):=fun k ok hk hkn hun=>by
    have hun':listed.getD k true=false:=by
     by_cases hjk:j=k
     ·subst hjk;exact hjun
     ·rw[getD_set_ne true hjk]at hun;exact hun
    rcases hA k ok hk hkn hun' with h|⟨k2,ok2,h3,h4,h5,h6⟩
    ·exact .inl h
    ·refine .inr ⟨k2,ok2,h3, ?_,h5,h6⟩
     have hne:j≠k2:=by
      rintro rfl;obtain rfl:ok2=oj:=Option.some.inj (h3.symm.trans hoj);obtain⟨e,he,hb,heq⟩:=h6;exact hnot e he hb heq
     rw[getD_set_ne true hne];exact h4
   refine wpOp_mono (fun a' w' h3=>⟨fun _=>h3.2.1 hEij,ih (listed.setIfInBounds j true) a' w' hfree' hEj hA' (ready_mono hr (Ne.symm hji)) h3.1 (h3.2.1 hEij) ?_⟩) h2;rw[Array.setIfInBounds_comm _ _ hji];exact h3.2.2
theorem takeW_first (hi:ops[i]?=some oi)(hin:i∉n)(hsel:∀(j:Nat) (o:Oper) cs b,ops[j]?=some o→o.op≠ .select cs b)(hQ:∀c a w,Q (.panic c) (a.put oi.dst v) w→Q (.panic c) a w):
  ∀(f:Nat) (listed:Array Bool) (a:Act) (w:World),
   (∀j oj,ops[j]?=some oj→j≠i→listed.getD j true=false→(∀e∈oj.after,Region.binds md e=true→e.on≠i)→oi.apart ops oj=true)→
   i∈Region.ready md ops listed→YieldsIf P ops (fun _=>True) oi v a→(Early n listed→S w)→
   wpAnyT P md ops Q S n f (listed.setIfInBounds i true) (a.put oi.dst v) w→wpAnyT P md ops Q S n (f+1) listed a w:=by
 intro f
 induction f with
 |zero=>
  intro listed a w _ hr hy hS H;refine⟨(fun h=>by rw[h]at hr;cases hr),fun j hj=> ?_⟩;by_cases hji:j=i
  ·subst hji;exact hy.wpOp hi trivial ⟨fun h=>hS ((early_set hin).1 h),H⟩
  ·have:=ready_mono hj hji;rw[H.1]at this;cases this
 |succ f ih=>
  intro listed a w hfree hr hy hS H;refine⟨(fun h=>by rw[h]at hr;cases hr),fun j hj=> ?_⟩;by_cases hji:j=i
  ·subst hji;exact hy.wpOp hi trivial ⟨fun h=>hS ((early_set hin).1 h),H⟩
  ·have h1:=H.2 j (ready_mono hj hji);obtain⟨hjun,oj,hoj,hall⟩:=mem_ready.1 hj;have hnot:=not_waits (j:=j) hr hall;have h2:=wpOp_putIf hoj (hfree j oj hoj hji hjun hnot) (fun cs b=>hsel i oi cs b hi) (fun cs b=>hsel j oj cs b hoj) hQ hy h1
   have hfree':∀k ok,ops[k]?=some ok→k≠i→(listed.setIfInBounds j true).getD k true=false→
     (∀e∈ok.after,Region.binds md e=true→e.on≠i)→oi.apart ops ok=true:=fun k ok hk hki hun hno=>by
    refine hfree k ok hk hki ?_ hno;by_cases hjk:j=k
    ·subst hjk;exact hjun
    ·rw[getD_set_ne true hjk]at hun;exact hun
   have hEq:Early n (listed.setIfInBounds j true)→Early n ((listed.setIfInBounds i true).setIfInBounds j true):=fun h=>by
    rw[Array.setIfInBounds_comm _ _ (Ne.symm hji)];exact(early_set hin).2 h
   refine wpOp_mono (fun a' w' h3=>⟨fun h=>h3.2.1 (hEq h),ih (listed.setIfInBounds j true) a' w' hfree' (ready_mono hr (Ne.symm hji)) h3.1 (fun h=>h3.2.1 (hEq h)) ?_⟩) h2;rw[Array.setIfInBounds_comm _ _ hji];exact h3.2.2
theorem takeT (hi:ops[i]?=some oi)(hs:Region.noSelect ops=true)(hf:Region.free md ops listed i=true)(hr:(Region.ready md ops listed).contains i=true)(hin:n.contains i=false)(hA:awaitedB md ops n i listed=true)(hQ:∀c a w,Q (.panic c) (a.put oi.dst v) w→Q (.panic c) a w)(hy:YieldsIf P ops S oi v a)(hS:S w)(h:wpAnyT P md ops Q S n f (listed.setIfInBounds i true) (a.put oi.dst v) w):wpAnyT P md ops Q S n (f+1) listed a w:=
 takeT_first hi (by simpa using hin) (Region.noSelect_spec hs) hQ f listed a w (Region.free_spec hi hf) (awaited_of hA).1 (awaited_of hA).2 (by simpa using hr) hy hS h
theorem takeW (hi:ops[i]?=some oi)(hs:Region.noSelect ops=true)(hf:Region.free md ops listed i=true)(hr:(Region.ready md ops listed).contains i=true)(hin:n.contains i=false)(hQ:∀c a w,Q (.panic c) (a.put oi.dst v) w→Q (.panic c) a w)(hy:YieldsIf P ops (fun _=>True) oi v a)(hS:S w)(h:wpAnyT P md ops Q S n f (listed.setIfInBounds i true) (a.put oi.dst v) w):wpAnyT P md ops Q S n (f+1) listed a w:=
 takeW_first hi (by simpa using hin) (Region.noSelect_spec hs) hQ f listed a w (Region.free_spec hi hf) (by simpa using hr) hy (fun _=>hS) h
theorem takeL (hi:ops[i]?=some oi)(hs:Region.noSelect ops=true)(hf:Region.free md ops listed i=true)(hr:(Region.ready md ops listed).contains i=true)(hin:n.contains i=false)(hQ:∀c a w,Q (.panic c) (a.put oi.dst v) w→Q (.panic c) a w)(hy:YieldsIf P ops (fun _=>True) oi v a)(hl:(n.any fun k=>listed.getD k true)=true)(h:wpAnyT P md ops Q S n f (listed.setIfInBounds i true) (a.put oi.dst v) w):wpAnyT P md ops Q S n (f+1) listed a w:=
 takeW_first hi (by simpa using hin) (Region.noSelect_spec hs) hQ f listed a w (Region.free_spec hi hf) (by simpa using hr) hy (fun hE=>by
  obtain⟨k,hk,h1⟩:=List.any_eq_true.1 hl
  rw[hE k hk]at h1;cases h1) h
theorem nextT {o:Oper}(hi:ops[i]?=some o)(hr:Region.ready md ops listed=[i])(h:∀K:Act→World→Prop,RowKit.Hid (∀a' w',(i∉n→S w')→wpAnyT P md ops Q S n f (listed.setIfInBounds i true) a' w'→K a' w')→if Region.wanted o (yielded ops a.tmps)=true then o.wp P a w K Q else K (a.put o.dst undef) w):wpAnyT P md ops Q S n (f+1) listed a w:=by
 refine⟨(fun h0=>by rw[hr]at h0;cases h0),fun j hj=> ?_⟩;rw[hr]at hj
 obtain rfl:j=i:=by simpa using hj
 have hun:listed.getD j true=false:=(mem_ready.1 (by rw[hr];simp:j∈Region.ready md ops listed)).1;unfold wpOp;simp only[hi]
 have:=h (fun a' w'=>(Early n (listed.setIfInBounds j true)→S w')∧wpAnyT P md ops Q S n f (listed.setIfInBounds j true) a' w') (qd fun a' w' h1 h2=>⟨fun hE=>by
  by_cases hjn:j∈n
  ·have h3:=hE j hjn
   have hlt:j<listed.size:=by
    rcases Nat.lt_or_ge j listed.size with h'|h'
    ·exact h'
    ·simp[Array.getElem?_eq_none h']at hun
   simp[hlt]at h3
  ·exact h1 hjn,h2⟩)
 split
 ·next hw=>rw[if_pos hw]at this;exact .inl this
 ·next hw=>rw[if_neg hw]at this;exact this
theorem doneT (hr:Region.ready md ops listed=[])(h:Q .normal a w):∀f,wpAnyT P md ops Q S n f listed a w
 |0=>⟨hr,h⟩
 |_+1=>⟨fun _=>h,by rw[hr];simp⟩
end
end
section
section
variable {P : Program} {ops : Array Oper} {Q : Exit → Act → World → Prop} {md : Region.Mode} {S : World → Prop} {n : List Nat} {f : Nat} {listed : Array Bool} {a : Act} {w : World} {o1 : Op} {o2 : TypeId} {o3 : String} {o4 : Array Edge} {o5 : Option (Nat × Bool)}
theorem tW (i:Nat)(s:Option Tmp)(v:Value)(hi:ops[i]?=some ⟨s,o1,o2,o3,o4,o5⟩)(hS:S w)(h:wpAnyT P md ops Q S n f (listed.setIfInBounds i true) (a.put s v) w)(h1:Region.noSelect ops=true:=by kernel_rfl)(h2:Region.free md ops listed i=true:=by kernel_rfl)(h3:(Region.ready md ops listed).contains i=true:=by kernel_rfl)(h4:n.contains i=false:=by rfl)(h5:Region.wanted ⟨s,o1,o2,o3,o4,o5⟩ (yielded ops a.tmps)=true:=by rfl)(h7:∀w,True→(execOp a.eval ⟨s,o1,o2,o3,o4,o5⟩).run P w= .ok (.value v) w:=by rintro w-;go_simp)(h6:∀c b u,Q (.panic c) (b.put s v) u→Q (.panic c) b u:=by exact fun _ _ _ h=>h):wpAnyT P md ops Q S n (f+1) listed a w:=
  takeW hi h1 h2 h3 h4 h6 (Or.inl ⟨h5,h7⟩) hS h
theorem tT (i:Nat)(s:Option Tmp)(v:Value)(hi:ops[i]?=some ⟨s,o1,o2,o3,o4,o5⟩)(h7:∀w,S w→(execOp a.eval ⟨s,o1,o2,o3,o4,o5⟩).run P w= .ok (.value v) w)(hS:S w)(h:wpAnyT P md ops Q S n f (listed.setIfInBounds i true) (a.put s v) w)(h1:Region.noSelect ops=true:=by kernel_rfl)(h2:Region.free md ops listed i=true:=by kernel_rfl)(h3:(Region.ready md ops listed).contains i=true:=by kernel_rfl)(h4:n.contains i=false:=by rfl)(h5:Region.wanted ⟨s,o1,o2,o3,o4,o5⟩ (yielded ops a.tmps)=true:=by rfl)(h8:awaitedB md ops n i listed=true:=by kernel_rfl)(h6:∀c b u,Q (.panic c) (b.put s v) u→Q (.panic c) b u:=by exact fun _ _ _ h=>h):wpAnyT P md ops Q S n (f+1) listed a w:=
  takeT hi h1 h2 h3 h4 h8 h6 (Or.inl ⟨h5,h7⟩) hS h
theorem nT (i:Nat){s:Option Tmp}(hi:ops[i]?=some ⟨s,o1,o2,o3,o4,o5⟩)(h:∀K:Act→World→Prop,RowKit.Hid (∀a' w',(i∉n→S w')→wpAnyT P md ops Q S n f (listed.setIfInBounds i true) a' w'→K a' w')→if Region.wanted ⟨s,o1,o2,o3,o4,o5⟩ (yielded ops a.tmps)=true then(Oper.mk s o1 o2 o3 o4 o5).wp P a w K Q else K (a.put s undef) w)(hr:Region.ready md ops listed=[i]:=by kernel_rfl):wpAnyT P md ops Q S n (f+1) listed a w:=nextT hi hr h
variable {s : Option Tmp} {v : Value} {a1 : Act}
theorem vW (i:Nat)(hi:ops[i]?=some ⟨s,o1,o2,o3,o4,o5⟩)(h:wpAnyT P md ops Q S n f (listed.setIfInBounds i true) a1 w)(h1:Region.noSelect ops=true:=by kernel_rfl)(h2:Region.free md ops listed i=true:=by kernel_rfl)(h3:(Region.ready md ops listed).contains i=true:=by kernel_rfl)(h4:n.contains i=false:=by rfl)(h5:Region.wanted ⟨s,o1,o2,o3,o4,o5⟩ (yielded ops a.tmps)=true:=by rfl)(h7:∀w,True→(execOp a.eval ⟨s,o1,o2,o3,o4,o5⟩).run P w= .ok (.value v) w:=by rintro w-;go_simp<;>rfl)(ha:a.put s v=a1:=by(try simp only[pt]);rfl)(hS:S w:=by exact hHeld)(h6:∀c b u,Q (.panic c) (b.put s v) u→Q (.panic c) b u:=by exact fun _ _ _ h=>h):wpAnyT P md ops Q S n (f+1) listed a w:=by
  subst ha;exact takeW hi h1 h2 h3 h4 h6 (Or.inl ⟨h5,h7⟩) hS h
theorem vL (i:Nat)(hi:ops[i]?=some ⟨s,o1,o2,o3,o4,o5⟩)(h:wpAnyT P md ops Q S n f (listed.setIfInBounds i true) a1 w)(h1:Region.noSelect ops=true:=by kernel_rfl)(h2:Region.free md ops listed i=true:=by kernel_rfl)(h3:(Region.ready md ops listed).contains i=true:=by kernel_rfl)(h4:n.contains i=false:=by rfl)(h5:Region.wanted ⟨s,o1,o2,o3,o4,o5⟩ (yielded ops a.tmps)=true:=by rfl)(h7:∀w,True→(execOp a.eval ⟨s,o1,o2,o3,o4,o5⟩).run P w= .ok (.value v) w:=by rintro w-;go_simp<;>rfl)(h8:(n.any fun k=>listed.getD k true)=true:=by kernel_rfl)(ha:a.put s v=a1:=by(try simp only[pt]);rfl)(h6:∀c b u,Q (.panic c) (b.put s v) u→Q (.panic c) b u:=by exact fun _ _ _ h=>h):wpAnyT P md ops Q S n (f+1) listed a w:=by
  subst ha;exact takeL hi h1 h2 h3 h4 h6 (Or.inl ⟨h5,h7⟩) h8 h
theorem vT (i:Nat)(hi:ops[i]?=some ⟨s,o1,o2,o3,o4,o5⟩)(h:wpAnyT P md ops Q S n f (listed.setIfInBounds i true) a1 w)(h1:Region.noSelect ops=true:=by kernel_rfl)(h2:Region.free md ops listed i=true:=by kernel_rfl)(h3:(Region.ready md ops listed).contains i=true:=by kernel_rfl)(h4:n.contains i=false:=by rfl)(h5:Region.wanted ⟨s,o1,o2,o3,o4,o5⟩ (yielded ops a.tmps)=true:=by rfl)(h7:∀w,S w→(execOp a.eval ⟨s,o1,o2,o3,o4,o5⟩).run P w= .ok (.value v) w:=by intro w hh;(try dsimp only at hh);go_simp<;>rfl)(h8:awaitedB md ops n i listed=true:=by kernel_rfl)(ha:a.put s v=a1:=by(try simp only[pt]);rfl)(hS:S w:=by exact hHeld)(h6:∀c b u,Q (.panic c) (b.put s v) u→Q (.panic c) b u:=by exact fun _ _ _ h=>h):wpAnyT P md ops Q S n (f+1) listed a w:=by
  subst ha;exact takeT hi h1 h2 h3 h4 h8 h6 (Or.inl ⟨h5,h7⟩) hS h
theorem vU (i:Nat)(hi:ops[i]?=some ⟨s,o1,o2,o3,o4,o5⟩)(h:wpAnyT P md ops Q S n f (listed.setIfInBounds i true) a1 w)(h1:Region.noSelect ops=true:=by kernel_rfl)(h2:Region.free md ops listed i=true:=by kernel_rfl)(h3:(Region.ready md ops listed).contains i=true:=by kernel_rfl)(h4:n.contains i=false:=by rfl)(h5:Region.wanted ⟨s,o1,o2,o3,o4,o5⟩ (yielded ops a.tmps)=false:=by rfl)(ha:a.put s undef=a1:=by(try simp only[pt]);rfl)(hS:S w:=by exact hHeld)(h6:∀c b u,Q (.panic c) (b.put s undef) u→Q (.panic c) b u:=by exact fun _ _ _ h=>h):wpAnyT P md ops Q S n (f+1) listed a w:=by
  subst ha;exact takeW hi h1 h2 h3 h4 h6 (Or.inr ⟨h5,rfl⟩) hS h
theorem rT {id:Nat}(S:World→Prop)(n:List Nat)(h:wpAnyT P .any ops Q S n ops.size (Array.replicate ops.size false) a (World.drew w))(hm:P.follows .mixedOrders=true:=by kernel_rfl):(Code.region id ops true).wp P Q a w:=region_T S n hm h
theorem kO {K:Act→World→Prop}{i:Nat}(hK:RowKit.Hid (∀a' w',(i∉n→S w')→wpAnyT P md ops Q S n f listed a' w'→K a' w'))(h:wpAnyT P md ops Q S n f listed a1 w)(ha:a=a1:=by(try simp only[pt]);rfl)(hs:i∉n→S w:=by first|exact fun h=>absurd (by decide) h|(intro _;exact hHeld)|(intro _;(try dsimp only);go_simp)):K a w:=by
  subst ha;exact hK.out _ _ hs h
end
end
section
theorem cell_in {W W':World}{a:Addr}{v:Value}(hb:Below W.heap.size W W')(h:W.cell? a=some v):W'.cell? a=some v:=(hb.cell (World.block_lt_of_cell? W a h)).trans h
theorem below_nx {a b c:World}(hb:Below b.heap.size b c)(h:Below a.heap.size a b):Below a.heap.size a c:=h.trans (hb.mono h.size)
def mCells (a l:Cnt)(m:Int):List Value:=[.int .i64 a.p,.int .i64 a.v,.int .i64 a.u,.int .i64 l.p,.int .i64 l.v,.int .i64 l.u,.bool false,.int .i64 m]
structure Met (w:World)(mb:Nat)(t:TypeId)(pre post:List Value)(mo:Nat)(a l:Cnt)(m:Int):Prop where
 len:pre.length=mo
 blk:Blk w mb t (pre++(mCells a l m++post)).toArray
section
variable {w w' : World} {mb mo : Nat} {t : TypeId} {pre post : List Value} {a l : Cnt} {m : Int}
theorem Met.at_ (h:Met w mb t pre post mo a l m)(i:Nat)(hi:i<8):w.cell? ⟨mb,mo+i,none⟩=(mCells a l m)[i]?:=by
 rw[h.blk.cell,List.getElem?_toArray,List.getElem?_append_right (by have:=h.len;omega),List.getElem?_append_left (by have:=h.len;simp[mCells];omega)];congr 1;have:=h.len;omega
theorem Met.frz (h:Met w mb t pre post mo a l m)(i:Nat):w.frozen? ⟨mb,i,none⟩=false:=h.blk.frozen i
theorem Met.lt (h:Met w mb t pre post mo a l m):mb<w.heap.size:=h.blk.lt
theorem Met.mod {S:List Nat}(h:Met w mb t pre post mo a l m)(hm:Mod S w w')(hg:mb∉S):Met w' mb t pre post mo a l m:=⟨h.len,h.blk.mod hm hg⟩
instance {w w':World}{mb:Nat}{t:TypeId}{pre post:List Value}{mo:Nat}{a l:Cnt}{m:Int}:Md (Met w mb t pre post mo a l m) w w' (Met w' mb t pre post mo a l m) (fun S=>mb∉S):=⟨fun h hm hs=>Met.mod h hm hs⟩
theorem Met.below (h:Met w mb t pre post mo a l m)(hb:Below w.heap.size w w'):Met w' mb t pre post mo a l m:=⟨h.len,h.blk.below hb h.lt⟩
theorem set_mid (pre x post:List Value)(i:Nat)(u:Value)(hi:i<x.length):(pre++(x++post)).toArray.setIfInBounds (pre.length+i) u=(pre++(x.set i u++post)).toArray:=by
 rw[List.setIfInBounds_toArray,List.set_append_right _ _ (by omega),Nat.add_sub_cancel_left,List.set_append_left _ _ hi]
theorem Met.set_all (h:Met w mb t pre post mo a l m)(x:Cnt):Met (((w.setCell ⟨mb,mo,none⟩ (.int .i64 x.p)).setCell ⟨mb,mo+1,none⟩ (.int .i64 x.v)).setCell ⟨mb,mo+2,none⟩ (.int .i64 x.u)) mb t pre post mo x l m:=by
 refine⟨h.len, ?_⟩;have:=((h.blk.set_ (mo+0) (.int .i64 x.p)).set_ (mo+1) (.int .i64 x.v)).set_ (mo+2) (.int .i64 x.u);rw[←h.len,set_mid _ _ _ _ _ (by simp[mCells]),set_mid _ _ _ _ _ (by simp[mCells]),set_mid _ _ _ _ _ (by simp[mCells])]at this;rw[←h.len];exact this
theorem Met.set_last (h:Met w mb t pre post mo a l m)(x:Cnt):Met (((w.setCell ⟨mb,mo+3,none⟩ (.int .i64 x.p)).setCell ⟨mb,mo+3+1,none⟩ (.int .i64 x.v)).setCell ⟨mb,mo+3+2,none⟩ (.int .i64 x.u)) mb t pre post mo a x m:=by
 refine⟨h.len, ?_⟩;have:=((h.blk.set_ (mo+3) (.int .i64 x.p)).set_ (mo+4) (.int .i64 x.v)).set_ (mo+5) (.int .i64 x.u);rw[←h.len,set_mid _ _ _ _ _ (by simp[mCells]),set_mid _ _ _ _ _ (by simp[mCells]),set_mid _ _ _ _ _ (by simp[mCells])]at this;rw[←h.len];exact this
end
def AddPost (w:World)(mb:Nat)(t:TypeId)(pre post:List Value)(mo:Nat)(a l:Cnt)(m:Int)(c:Cnt)(e:Ending)(w':World):Prop:=
 e= .returned undef∧Met w' mb t pre post mo (plusC a c) (plusC l c) m∧Mod [mb] w w'
theorem meter_add (mb:Nat)(t:TypeId)(pre post:List Value)(mo:Nat)(a l:Cnt)(m:Int)(c:Cnt)(w:World)(h:Met w mb t pre post mo a l m):
  Calls Tryz.prog 161 #[.pointer (some ⟨mb,mo,none⟩),cntV c] w (AddPost w mb t pre post mo a l m c):=by
 have HP:=qd (fun(x:Cnt) (V:World)=>show Calls Tryz.prog 77 #[.agg #[.int .i64 x.p,.int .i64 x.v,.int .i64 x.u],.agg #[.int .i64 c.p,.int .i64 c.v,.int .i64 c.u]] V (fun e w'=>e= .returned (.agg #[.int .i64 (plusC x c).p,.int .i64 (plusC x c).v,.int .i64 (plusC x c).u])∧Below V.heap.size V w')from meter_Plus x c V);unfold cntV;have hB0:=(Below.refl w.heap.size w).alloc (Nat.le_refl _) (.cells #[.int .i64 c.p,.int .i64 c.v,.int .i64 c.u] 90);have hM:=h.below hB0;have hC:=Blk.new w 90 #[.int .i64 c.p,.int .i64 c.v,.int .i64 c.u];have hlt:=h.lt;obtain⟨W,hW⟩:∃W,W=w.alloc (.cells #[.int .i64 c.p,.int .i64 c.v,.int .i64 c.u] 90):=⟨_,rfl⟩;obtain⟨p,hp⟩:∃p,p=w.heap.size:=⟨_,rfl⟩;rw[←hW]at hB0 hM hC;rw[←hp]at hC;have m0:W.cell? ⟨mb,mo,none⟩=some (.int .i64 a.p):=hM.at_ 0 (by omega);have m1:W.cell? ⟨mb,mo+1,none⟩=some (.int .i64 a.v):=hM.at_ 1 (by omega);have m2:W.cell? ⟨mb,mo+2,none⟩=some (.int .i64 a.u):=hM.at_ 2 (by omega);have m3:W.cell? ⟨mb,mo+3,none⟩=some (.int .i64 l.p):=hM.at_ 3 (by omega);have m4:W.cell? ⟨mb,mo+3+1,none⟩=some (.int .i64 l.v):=hM.at_ 4 (by omega);have m5:W.cell? ⟨mb,mo+3+2,none⟩=some (.int .i64 l.u):=hM.at_ 5 (by omega);obtain⟨c0,c1,c2⟩:=hC.c3;have HW:=qd (And.intro hp hW);have HB0:=qd hB0;clear hW hp hC h hB0;go_in;go_upto_region 1 with fail;rw[←HW.out.2,←HW.out.1]
 refine rT (fun w'=>(w'.cell? ⟨mb,mo,none⟩=some (.int .i64 a.p)∧w'.cell? ⟨mb,mo+1,none⟩=some (.int .i64 a.v)∧w'.cell? ⟨mb,mo+2,none⟩=some (.int .i64 a.u)∧w'.cell? ⟨mb,mo+3,none⟩=some (.int .i64 l.p)∧w'.cell? ⟨mb,mo+3+1,none⟩=some (.int .i64 l.v)∧w'.cell? ⟨mb,mo+3+2,none⟩=some (.int .i64 l.u)∧w'.cell? ⟨p,0,none⟩=some (.int .i64 c.p)∧w'.cell? ⟨p,1,none⟩=some (.int .i64 c.v)∧w'.cell? ⟨p,2,none⟩=some (.int .i64 c.u))∧Below W.heap.size W w') [16,19] ?_;have hHeld:(fun w'=>(w'.cell? ⟨mb,mo,none⟩=some (.int .i64 a.p)∧w'.cell? ⟨mb,mo+1,none⟩=some (.int .i64 a.v)∧w'.cell? ⟨mb,mo+2,none⟩=some (.int .i64 a.u)∧w'.cell? ⟨mb,mo+3,none⟩=some (.int .i64 l.p)∧w'.cell? ⟨mb,mo+3+1,none⟩=some (.int .i64 l.v)∧w'.cell? ⟨mb,mo+3+2,none⟩=some (.int .i64 l.u)∧w'.cell? ⟨p,0,none⟩=some (.int .i64 c.p)∧w'.cell? ⟨p,1,none⟩=some (.int .i64 c.v)∧w'.cell? ⟨p,2,none⟩=some (.int .i64 c.u))∧Below W.heap.size W w') (World.drew W):=⟨⟨m0,m1,m2,m3,m4,m5,c0,c1,c2⟩,(Below.refl _ _).drew⟩;refine vW 0 rfl ?_;refine vW 1 rfl ?_;refine vW 2 rfl ?_;refine vW 3 rfl ?_;refine vW 4 rfl ?_;refine vT 5 rfl ?_;refine vT 6 rfl ?_;refine vW 8 rfl ?_;refine vW 9 rfl ?_;refine vW 10 rfl ?_;refine vT 11 rfl ?_;refine vT 12 rfl ?_;refine nT 7 rfl fun K hK=> ?_;go_simp;refine(HP.out a _).mono ?_;rintro e w1 ⟨rfl,hb1⟩;replace hb1:Below W.heap.size W w1:=below_nx hb1 (Below.refl _ _).drew;go_wp2_with fail
 have hHeld:=show(fun w'=>(w'.cell? ⟨mb,mo,none⟩=some (.int .i64 a.p)∧w'.cell? ⟨mb,mo+1,none⟩=some (.int .i64 a.v)∧w'.cell? ⟨mb,mo+2,none⟩=some (.int .i64 a.u)∧w'.cell? ⟨mb,mo+3,none⟩=some (.int .i64 l.p)∧w'.cell? ⟨mb,mo+3+1,none⟩=some (.int .i64 l.v)∧w'.cell? ⟨mb,mo+3+2,none⟩=some (.int .i64 l.u)∧w'.cell? ⟨p,0,none⟩=some (.int .i64 c.p)∧w'.cell? ⟨p,1,none⟩=some (.int .i64 c.v)∧w'.cell? ⟨p,2,none⟩=some (.int .i64 c.u))∧Below W.heap.size W w') _ from⟨⟨cell_in hb1 m0,cell_in hb1 m1,cell_in hb1 m2,cell_in hb1 m3,cell_in hb1 m4,cell_in hb1 m5,cell_in hb1 c0,cell_in hb1 c1,cell_in hb1 c2⟩,hb1⟩;refine kO hK ?_;clear hK K;refine nT 13 rfl fun K hK=> ?_;go_simp;refine(HP.out l _).mono ?_;rintro e w2 ⟨rfl,hb2⟩;replace hb2:Below W.heap.size W w2:=below_nx hb2 hb1;have hM2:=hM.below hb2;have fz:=hM2.frz;have n0:=cell_in hb2 m0;have n1:=cell_in hb2 m1;have n2:=cell_in hb2 m2;have n3:=cell_in hb2 m3;have n4:=cell_in hb2 m4;have n5:=cell_in hb2 m5;have g0:=fz mo;have g1:=fz (mo+1);have g2:=fz (mo+2);have g3:=fz (mo+3);have g4:=fz (mo+3+1);have g5:=fz (mo+3+2);clear fz;go_wp2_with fail
 have hHeld:=show(fun w'=>(w'.cell? ⟨mb,mo,none⟩=some (.int .i64 a.p)∧w'.cell? ⟨mb,mo+1,none⟩=some (.int .i64 a.v)∧w'.cell? ⟨mb,mo+2,none⟩=some (.int .i64 a.u)∧w'.cell? ⟨mb,mo+3,none⟩=some (.int .i64 l.p)∧w'.cell? ⟨mb,mo+3+1,none⟩=some (.int .i64 l.v)∧w'.cell? ⟨mb,mo+3+2,none⟩=some (.int .i64 l.u)∧w'.cell? ⟨p,0,none⟩=some (.int .i64 c.p)∧w'.cell? ⟨p,1,none⟩=some (.int .i64 c.v)∧w'.cell? ⟨p,2,none⟩=some (.int .i64 c.u))∧Below W.heap.size W w') _ from⟨⟨cell_in hb2 m0,cell_in hb2 m1,cell_in hb2 m2,cell_in hb2 m3,cell_in hb2 m4,cell_in hb2 m5,cell_in hb2 c0,cell_in hb2 c1,cell_in hb2 c2⟩,hb2⟩;refine kO hK ?_;clear hK K;refine vW 14 rfl ?_;refine vW 15 rfl ?_;refine nT 16 rfl fun K hK=> ?_;go_simp;refine kO hK ?_;clear hK K;refine vL 17 rfl ?_;refine vL 18 rfl ?_;refine nT 19 rfl fun K hK=> ?_;go_simp;refine kO hK ?_;clear hK K;refine doneT (by kernel_rfl) ?_ _;go_wp2;go_end0;exact⟨rfl,(hM2.set_all _).set_last _,((((((Mod.of_below (HB0.out.trans (hb2.mono HB0.out.size)) [mb]).set_ (.inl (by simp)) _ _).set_ (.inl (by simp)) _ _).set_ (.inl (by simp)) _ _).set_ (.inl (by simp)) _ _).set_ (.inl (by simp)) _ _).set_ (.inl (by simp)) _ _⟩
end
end Go.Proofs.YthfgacnlojmmfaaGreatDoor
