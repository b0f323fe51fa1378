/- A region that draws its order: a condition on the world that holds until the stores begin, which wait for all that is read. No statement of the claim. -/
import Derived.OrdersHeld
import Derived.Test.YtgkeameopnpinaaGreatDoorLaneP
import Derived.Lib.Hide
import Derived.RowKit
import Derived.Test.YtgkeameopnpinaaGreatDoorSqM
namespace Go.Proofs.YtgkeameopnpinaaGreatDoor
set_option maxRecDepth 100000
set_option maxHeartbeats 4000000
open Go Go.RowKit bY
section
variable {f i : Nat} {listed : Array Bool} {a : Act} {w : World} {oi oj : Oper} {v : Value}
section
variable {P : Program} {ops : Array Oper} {Q : Exit → Act → World → Prop} {md : Region.Mode} {S : World → Prop} {n : List Nat}
def Early (n:List Nat)(listed:Array Bool):Prop:=∀k,k∈n→listed.getD k true=false
theorem pW (hi:i∉n):Early n (listed.setIfInBounds i true)↔Early n listed:=by
 have H:∀k,k∈n→((listed.setIfInBounds i true).getD k true=false↔listed.getD k true=false):=fun k hk=>by
  have hne:i≠k:=fun h=>hi (h▸hk);rw[getD_set_ne true hne]
 exact⟨fun h k hk=>(H k hk).1 (h k hk),fun h k hk=>(H k hk).2 (h k hk)⟩
def bL (P:Program)(md:Region.Mode)(ops:Array Oper)(Q:Exit→Act→World→Prop)(S:World→Prop)(n:List Nat):Nat→Array Bool→Act→World→Prop
 |0,listed,a,w=>Region.ready md ops listed=[]∧Q .normal a w
 |f+1,listed,a,w=>
  (Region.ready md ops listed=[]→Q .normal a w)∧
  ∀i∈Region.ready md ops listed,wpOp P ops Q i (fun a' w'=>(Early n (listed.setIfInBounds i true)→S w')∧bL P md ops Q S n f (listed.setIfInBounds i true) a' w') a w
theorem zy:∀(f:Nat) (listed:Array Bool) (a:Act) (w:World),bL P md ops Q S n f listed a w→wpAny P md ops Q f listed a w
 |0,_,_,_,h=>h
 |f+1,_,_,_,h=>⟨h.1,fun i hi=>wpOp_mono (fun a' w' h'=>zy f _ a' w' h'.2) (h.2 i hi)⟩
theorem Vv {id:Nat}(S:World→Prop)(n:List Nat)(hm:P.follows .mixedOrders=true)(h:bL P .any ops Q S n ops.size (Array.replicate ops.size false) a {w with drawn:=w.drawn+1}):(Code.region id ops true).wp P Q a w:=
 wp_region_any hm (zy _ _ _ _ h)
def After (md:Region.Mode)(oj:Oper)(i:Nat):Prop:=∃e∈oj.after,Region.binds md e=true∧e.on=i
def GA (md:Region.Mode)(ops:Array Oper)(n:List Nat)(i:Nat)(listed:Array Bool):Prop:=
 ∀j oj,ops[j]?=some oj→j∈n→listed.getD j true=false→After md oj i∨∃k ok,ops[k]?=some ok∧listed.getD k true=false∧After md oj k∧After md ok i
def EZ (md:Region.Mode)(oj:Oper)(i:Nat):Bool:=oj.after.any fun e=>Region.binds md e && e.on==i
theorem D8 (h:EZ md oj i=true):After md oj i:=by
 obtain⟨e,he,hb⟩:=Array.any_eq_true'.1 h;simp only[Bool.and_eq_true,beq_iff_eq]at hb;exact⟨e,he,hb.1,hb.2⟩
def vH (md:Region.Mode)(ops:Array Oper)(n:List Nat)(i:Nat)(listed:Array Bool):Bool:=
 (n.all fun k=> !listed.getD k true) && (List.range ops.size).all fun j=> !n.contains j||(match ops[j]? with
  |some oj=>EZ md oj i||(List.range ops.size).any fun k=> !listed.getD k true && EZ md oj k && (match ops[k]? with
   |some ok=>EZ md ok i
   |none=>false)
  |none=>true)
theorem E5 (h:vH md ops n i listed=true):Early n listed∧GA md ops n i listed:=by
 unfold vH at h;rw[Bool.and_eq_true]at h;refine⟨fun k hk=>by simpa using List.all_eq_true.1 h.1 k hk,fun j oj hj hn hl=> ?_⟩;have hlt:j<ops.size:=(Array.getElem?_eq_some_iff.1 hj).1;have h1:=List.all_eq_true.1 h.2 j (List.mem_range.2 hlt);rw[hj,show n.contains j=true by simpa using hn]at h1;simp only[Bool.not_true,Bool.false_or,Bool.or_eq_true]at h1;rcases h1 with h1|h1
 ·exact .inl (D8 h1)
 ·obtain⟨k,_,h2⟩:=List.any_eq_true.1 h1;simp only[Bool.and_eq_true,Bool.not_eq_true']at h2;obtain⟨⟨h3,h4⟩,h5⟩:=h2
  cases hk:ops[k]? with
  |none=>rw[hk]at h5;cases h5
  |some ok=>rw[hk]at h5;exact .inr ⟨k,ok,hk,h3,D8 h4,D8 h5⟩
theorem Vw {k:Nat}(h1:listed.getD k false=true)(h0:listed.getD k true=false):False:=by
 rcases Nat.lt_or_ge k listed.size with h'|h'
 ·simp[h']at h0 h1;rw[h0]at h1;cases h1
 ·simp[Array.getElem?_eq_none h']at h1
theorem Ik {j:Nat}(hr:i∈Region.ready md ops listed)(hall:∀e∈oj.after,Region.binds md e=true→listed.getD e.on false=true):∀e∈oj.after,Region.binds md e=true→e.on≠i:=fun e he hb heq=>by
 have _:=j;have h1:=hall e he hb;have h0:=(mem_ready.1 hr).1;rw[heq]at h1;rcases Nat.lt_or_ge i listed.size with h'|h'
 ·simp[h']at h0 h1;rw[h0]at h1;cases h1
 ·simp[Array.getElem?_eq_none h']at h1
theorem NI (hi:ops[i]?=some oi)(hin:i∉n)(hsel:∀(j:Nat) (o:Oper) cs b,ops[j]?=some o→o.op≠ .select cs b)(hQ:∀c a w,Q (.panic c) (a.put oi.dst v) w→Q (.panic c) a w):
  ∀(f:Nat) (listed:Array Bool) (a:Act) (w:World),
   (∀j oj,ops[j]?=some oj→j≠i→listed.getD j true=false→(∀e∈oj.after,Region.binds md e=true→e.on≠i)→oi.apart ops oj=true)→
   Early n listed→GA md ops n i listed→i∈Region.ready md ops listed→YieldsIf P ops S oi v a→S w→
   bL P md ops Q S n f (listed.setIfInBounds i true) (a.put oi.dst v) w→bL P md ops Q S n (f+1) listed a w:=by
 intro f
 induction f with
 |zero=>
  intro listed a w _ _ _ hr hy hS H;refine⟨(fun h=>by rw[h]at hr;cases hr),fun j hj=> ?_⟩;by_cases hji:j=i
  ·subst hji;exact hy.wpOp hi hS ⟨fun _=>hS,H⟩
  ·have:=ready_mono hj hji;rw[H.1]at this;cases this
 |succ f ih=>
  intro listed a w hfree hE hA hr hy hS H;refine⟨(fun h=>by rw[h]at hr;cases hr),fun j hj=> ?_⟩;by_cases hji:j=i
  ·subst hji;exact hy.wpOp hi hS ⟨fun _=>hS,H⟩
  ·have h1:=H.2 j (ready_mono hj hji);obtain⟨hjun,oj,hoj,hall⟩:=mem_ready.1 hj;have hnot:=Ik (j:=j) hr hall
   have hjn:j∉n:=fun h=>by
    rcases hA j oj hoj h hjun with⟨e,he,hb,heq⟩|⟨k,ok,_,hkl,⟨e,he,hb,heq⟩,_⟩
    ·exact absurd heq (hnot e he hb)
    ·exact Vw (heq▸hall e he hb) hkl
   have hEj:Early n (listed.setIfInBounds j true):=(pW hjn).2 hE;have aaq:Early n ((listed.setIfInBounds i true).setIfInBounds j true):=(pW hjn).2 ((pW hin).2 hE);have h2:=wpOp_putIf hoj (hfree j oj hoj hji hjun hnot) (fun cs b=>hsel i oi cs b hi) (fun cs b=>hsel j oj cs b hoj) hQ hy h1
   have hfree':∀k ok,ops[k]?=some ok→k≠i→(listed.setIfInBounds j true).getD k true=false→
     (∀e∈ok.after,Region.binds md e=true→e.on≠i)→oi.apart ops ok=true:=fun k ok hk hki hun hno=>by
    refine hfree k ok hk hki ?_ hno;by_cases hjk:j=k
    ·subst hjk;exact hjun
    ·rw[getD_set_ne true hjk]at hun;exact hun
   have hA':GA md ops n i (listed.setIfInBounds j true):=fun k ok hk hkn hun=>by
    have hun':listed.getD k true=false:=by
     by_cases hjk:j=k
     ·subst hjk;exact hjun
     ·rw[getD_set_ne true hjk]at hun;exact hun
    rcases hA k ok hk hkn hun' with h|⟨k2,R4,h3,h4,h5,h6⟩
    ·exact .inl h
    ·refine .inr ⟨k2,R4,h3, ?_,h5,h6⟩
     have hne:j≠k2:=by
      rintro rfl;obtain rfl:R4=oj:=Option.some.inj (h3.symm.trans hoj);obtain⟨e,he,hb,heq⟩:=h6;exact hnot e he hb heq
     rw[getD_set_ne true hne];exact h4
   refine wpOp_mono (fun a' w' h3=>⟨fun _=>h3.2.1 aaq,ih (listed.setIfInBounds j true) a' w' hfree' hEj hA' (ready_mono hr (Ne.symm hji)) h3.1 (h3.2.1 aaq) ?_⟩) h2;rw[Array.setIfInBounds_comm _ _ hji];exact h3.2.2
theorem Di (hi:ops[i]?=some oi)(hin:i∉n)(hsel:∀(j:Nat) (o:Oper) cs b,ops[j]?=some o→o.op≠ .select cs b)(hQ:∀c a w,Q (.panic c) (a.put oi.dst v) w→Q (.panic c) a w):
  ∀(f:Nat) (listed:Array Bool) (a:Act) (w:World),
   (∀j oj,ops[j]?=some oj→j≠i→listed.getD j true=false→(∀e∈oj.after,Region.binds md e=true→e.on≠i)→oi.apart ops oj=true)→
   i∈Region.ready md ops listed→YieldsIf P ops (fun _=>True) oi v a→(Early n listed→S w)→
   bL P md ops Q S n f (listed.setIfInBounds i true) (a.put oi.dst v) w→bL P md ops Q S n (f+1) listed a w:=by
 intro f
 induction f with
 |zero=>
  intro listed a w _ hr hy hS H;refine⟨(fun h=>by rw[h]at hr;cases hr),fun j hj=> ?_⟩;by_cases hji:j=i
  ·subst hji;exact hy.wpOp hi trivial ⟨fun h=>hS ((pW hin).1 h),H⟩
  ·have:=ready_mono hj hji;rw[H.1]at this;cases this
 |succ f ih=>
  intro listed a w hfree hr hy hS H;refine⟨(fun h=>by rw[h]at hr;cases hr),fun j hj=> ?_⟩;by_cases hji:j=i
  ·subst hji;exact hy.wpOp hi trivial ⟨fun h=>hS ((pW hin).1 h),H⟩
  ·have h1:=H.2 j (ready_mono hj hji);obtain⟨hjun,oj,hoj,hall⟩:=mem_ready.1 hj;have hnot:=Ik (j:=j) hr hall;have h2:=wpOp_putIf hoj (hfree j oj hoj hji hjun hnot) (fun cs b=>hsel i oi cs b hi) (fun cs b=>hsel j oj cs b hoj) hQ hy h1
   have hfree':∀k ok,ops[k]?=some ok→k≠i→(listed.setIfInBounds j true).getD k true=false→
     (∀e∈ok.after,Region.binds md e=true→e.on≠i)→oi.apart ops ok=true:=fun k ok hk hki hun hno=>by
    refine hfree k ok hk hki ?_ hno;by_cases hjk:j=k
    ·subst hjk;exact hjun
    ·rw[getD_set_ne true hjk]at hun;exact hun
   have hEq:Early n (listed.setIfInBounds j true)→Early n ((listed.setIfInBounds i true).setIfInBounds j true):=fun h=>by
    rw[Array.setIfInBounds_comm _ _ (Ne.symm hji)];exact(pW hin).2 h
   refine wpOp_mono (fun a' w' h3=>⟨fun h=>h3.2.1 (hEq h),ih (listed.setIfInBounds j true) a' w' hfree' (ready_mono hr (Ne.symm hji)) h3.1 (fun h=>h3.2.1 (hEq h)) ?_⟩) h2;rw[Array.setIfInBounds_comm _ _ hji];exact h3.2.2
theorem X5 (hi:ops[i]?=some oi)(hs:Region.noSelect ops=true)(hf:Region.free md ops listed i=true)(hr:(Region.ready md ops listed).contains i=true)(hin:n.contains i=false)(hA:vH md ops n i listed=true)(hQ:∀c a w,Q (.panic c) (a.put oi.dst v) w→Q (.panic c) a w)(hy:YieldsIf P ops S oi v a)(hS:S w)(h:bL P md ops Q S n f (listed.setIfInBounds i true) (a.put oi.dst v) w):bL P md ops Q S n (f+1) listed a w:=
 NI hi (by simpa using hin) (Region.noSelect_spec hs) hQ f listed a w (Region.free_spec hi hf) (E5 hA).1 (E5 hA).2 (by simpa using hr) hy hS h
theorem Qd (hi:ops[i]?=some oi)(hs:Region.noSelect ops=true)(hf:Region.free md ops listed i=true)(hr:(Region.ready md ops listed).contains i=true)(hin:n.contains i=false)(hQ:∀c a w,Q (.panic c) (a.put oi.dst v) w→Q (.panic c) a w)(hy:YieldsIf P ops (fun _=>True) oi v a)(hS:S w)(h:bL P md ops Q S n f (listed.setIfInBounds i true) (a.put oi.dst v) w):bL P md ops Q S n (f+1) listed a w:=
 Di hi (by simpa using hin) (Region.noSelect_spec hs) hQ f listed a w (Region.free_spec hi hf) (by simpa using hr) hy (fun _=>hS) h
theorem ab5 (hi:ops[i]?=some oi)(hs:Region.noSelect ops=true)(hf:Region.free md ops listed i=true)(hr:(Region.ready md ops listed).contains i=true)(hin:n.contains i=false)(hQ:∀c a w,Q (.panic c) (a.put oi.dst v) w→Q (.panic c) a w)(hy:YieldsIf P ops (fun _=>True) oi v a)(hl:(n.any fun k=>listed.getD k true)=true)(h:bL P md ops Q S n f (listed.setIfInBounds i true) (a.put oi.dst v) w):bL P md ops Q S n (f+1) listed a w:=
 Di hi (by simpa using hin) (Region.noSelect_spec hs) hQ f listed a w (Region.free_spec hi hf) (by simpa using hr) hy (fun hE=>by
  obtain⟨k,hk,h1⟩:=List.any_eq_true.1 hl
  rw[hE k hk]at h1;cases h1) h
theorem ab6 {o:Oper}(hi:ops[i]?=some o)(hr:Region.ready md ops listed=[i])(h:∀K:Act→World→Prop,RowKit.Hid (∀a' w',(i∉n→S w')→bL P md ops Q S n f (listed.setIfInBounds i true) a' w'→K a' w')→if Region.wanted o (yielded ops a.tmps)=true then o.wp P a w K Q else K (a.put o.dst undef) w):bL P md ops Q S n (f+1) listed a w:=by
 refine⟨(fun h0=>by rw[hr]at h0;cases h0),fun j hj=> ?_⟩;rw[hr]at hj
 obtain rfl:j=i:=by simpa using hj
 have hun:listed.getD j true=false:=(mem_ready.1 (by rw[hr];simp:j∈Region.ready md ops listed)).1;unfold wpOp;simp only[hi]
 have:=h (fun a' w'=>(Early n (listed.setIfInBounds j true)→S w')∧bL P md ops Q S n f (listed.setIfInBounds j true) a' w') (qd fun a' w' h1 h2=>⟨fun hE=>by
  by_cases hjn:j∈n
  ·have h3:=hE j hjn
   have hlt:j<listed.size:=by
    rcases Nat.lt_or_ge j listed.size with h'|h'
    ·exact h'
    ·simp[Array.getElem?_eq_none h']at hun
   simp[hlt]at h3
  ·exact h1 hjn,h2⟩)
 split
 ·next hw=>rw[if_pos hw]at this;exact .inl this
 ·next hw=>rw[if_neg hw]at this;exact this
theorem aQ (hr:Region.ready md ops listed=[])(h:Q .normal a w):∀f,bL P md ops Q S n f listed a w
 |0=>⟨hr,h⟩
 |_+1=>⟨fun _=>h,by rw[hr];simp⟩
end
end
section
section
variable {P : Program} {ops : Array Oper} {Q : Exit → Act → World → Prop} {md : Region.Mode} {S : World → Prop} {n : List Nat} {f : Nat} {listed : Array Bool} {a : Act} {w : World} {o1 : Op} {o2 : TypeId} {o3 : String} {o4 : Array Edge} {o5 : Option (Nat × Bool)}
theorem tW (i:Nat)(s:Option Tmp)(v:Value)(hi:ops[i]?=some ⟨s,o1,o2,o3,o4,o5⟩)(hS:S w)(h:bL P md ops Q S n f (listed.setIfInBounds i true) (a.put s v) w)(h1:Region.noSelect ops=true:=by kernel_rfl)(h2:Region.free md ops listed i=true:=by kernel_rfl)(h3:(Region.ready md ops listed).contains i=true:=by kernel_rfl)(h4:n.contains i=false:=by rfl)(h5:Region.wanted ⟨s,o1,o2,o3,o4,o5⟩ (yielded ops a.tmps)=true:=by rfl)(h7:∀w,True→(execOp a.eval ⟨s,o1,o2,o3,o4,o5⟩).run P w= .ok (.value v) w:=by rintro w-;go_simp)(h6:∀c b u,Q (.panic c) (b.put s v) u→Q (.panic c) b u:=by exact fun _ _ _ h=>h):bL P md ops Q S n (f+1) listed a w:=
  Qd hi h1 h2 h3 h4 h6 (Or.inl ⟨h5,h7⟩) hS h
theorem tT (i:Nat)(s:Option Tmp)(v:Value)(hi:ops[i]?=some ⟨s,o1,o2,o3,o4,o5⟩)(h7:∀w,S w→(execOp a.eval ⟨s,o1,o2,o3,o4,o5⟩).run P w= .ok (.value v) w)(hS:S w)(h:bL P md ops Q S n f (listed.setIfInBounds i true) (a.put s v) w)(h1:Region.noSelect ops=true:=by kernel_rfl)(h2:Region.free md ops listed i=true:=by kernel_rfl)(h3:(Region.ready md ops listed).contains i=true:=by kernel_rfl)(h4:n.contains i=false:=by rfl)(h5:Region.wanted ⟨s,o1,o2,o3,o4,o5⟩ (yielded ops a.tmps)=true:=by rfl)(h8:vH md ops n i listed=true:=by kernel_rfl)(h6:∀c b u,Q (.panic c) (b.put s v) u→Q (.panic c) b u:=by exact fun _ _ _ h=>h):bL P md ops Q S n (f+1) listed a w:=
  X5 hi h1 h2 h3 h4 h8 h6 (Or.inl ⟨h5,h7⟩) hS h
theorem nT (i:Nat){s:Option Tmp}(hi:ops[i]?=some ⟨s,o1,o2,o3,o4,o5⟩)(h:∀K:Act→World→Prop,RowKit.Hid (∀a' w',(i∉n→S w')→bL P md ops Q S n f (listed.setIfInBounds i true) a' w'→K a' w')→if Region.wanted ⟨s,o1,o2,o3,o4,o5⟩ (yielded ops a.tmps)=true then(Oper.mk s o1 o2 o3 o4 o5).wp P a w K Q else K (a.put s undef) w)(hr:Region.ready md ops listed=[i]:=by kernel_rfl):bL P md ops Q S n (f+1) listed a w:=ab6 hi hr h
variable {s : Option Tmp} {v : Value} {a1 : Act}
theorem vW (i:Nat)(hi:ops[i]?=some ⟨s,o1,o2,o3,o4,o5⟩)(h:bL P md ops Q S n f (listed.setIfInBounds i true) a1 w)(h1:Region.noSelect ops=true:=by kernel_rfl)(h2:Region.free md ops listed i=true:=by kernel_rfl)(h3:(Region.ready md ops listed).contains i=true:=by kernel_rfl)(h4:n.contains i=false:=by rfl)(h5:Region.wanted ⟨s,o1,o2,o3,o4,o5⟩ (yielded ops a.tmps)=true:=by rfl)(h7:∀w,True→(execOp a.eval ⟨s,o1,o2,o3,o4,o5⟩).run P w= .ok (.value v) w:=by rintro w-;go_simp<;>rfl)(ha:a.put s v=a1:=by(try simp only[pt]);rfl)(hS:S w:=by exact hHeld)(h6:∀c b u,Q (.panic c) (b.put s v) u→Q (.panic c) b u:=by exact fun _ _ _ h=>h):bL P md ops Q S n (f+1) listed a w:=by
  subst ha;exact Qd hi h1 h2 h3 h4 h6 (Or.inl ⟨h5,h7⟩) hS h
theorem vL (i:Nat)(hi:ops[i]?=some ⟨s,o1,o2,o3,o4,o5⟩)(h:bL P md ops Q S n f (listed.setIfInBounds i true) a1 w)(h1:Region.noSelect ops=true:=by kernel_rfl)(h2:Region.free md ops listed i=true:=by kernel_rfl)(h3:(Region.ready md ops listed).contains i=true:=by kernel_rfl)(h4:n.contains i=false:=by rfl)(h5:Region.wanted ⟨s,o1,o2,o3,o4,o5⟩ (yielded ops a.tmps)=true:=by rfl)(h7:∀w,True→(execOp a.eval ⟨s,o1,o2,o3,o4,o5⟩).run P w= .ok (.value v) w:=by rintro w-;go_simp<;>rfl)(h8:(n.any fun k=>listed.getD k true)=true:=by kernel_rfl)(ha:a.put s v=a1:=by(try simp only[pt]);rfl)(h6:∀c b u,Q (.panic c) (b.put s v) u→Q (.panic c) b u:=by exact fun _ _ _ h=>h):bL P md ops Q S n (f+1) listed a w:=by
  subst ha;exact ab5 hi h1 h2 h3 h4 h6 (Or.inl ⟨h5,h7⟩) h8 h
theorem vT (i:Nat)(hi:ops[i]?=some ⟨s,o1,o2,o3,o4,o5⟩)(h:bL P md ops Q S n f (listed.setIfInBounds i true) a1 w)(h1:Region.noSelect ops=true:=by kernel_rfl)(h2:Region.free md ops listed i=true:=by kernel_rfl)(h3:(Region.ready md ops listed).contains i=true:=by kernel_rfl)(h4:n.contains i=false:=by rfl)(h5:Region.wanted ⟨s,o1,o2,o3,o4,o5⟩ (yielded ops a.tmps)=true:=by rfl)(h7:∀w,S w→(execOp a.eval ⟨s,o1,o2,o3,o4,o5⟩).run P w= .ok (.value v) w:=by intro w hh;(try dsimp only at hh);go_simp<;>rfl)(h8:vH md ops n i listed=true:=by kernel_rfl)(ha:a.put s v=a1:=by(try simp only[pt]);rfl)(hS:S w:=by exact hHeld)(h6:∀c b u,Q (.panic c) (b.put s v) u→Q (.panic c) b u:=by exact fun _ _ _ h=>h):bL P md ops Q S n (f+1) listed a w:=by
  subst ha;exact X5 hi h1 h2 h3 h4 h8 h6 (Or.inl ⟨h5,h7⟩) hS h
theorem vU (i:Nat)(hi:ops[i]?=some ⟨s,o1,o2,o3,o4,o5⟩)(h:bL P md ops Q S n f (listed.setIfInBounds i true) a1 w)(h1:Region.noSelect ops=true:=by kernel_rfl)(h2:Region.free md ops listed i=true:=by kernel_rfl)(h3:(Region.ready md ops listed).contains i=true:=by kernel_rfl)(h4:n.contains i=false:=by rfl)(h5:Region.wanted ⟨s,o1,o2,o3,o4,o5⟩ (yielded ops a.tmps)=false:=by rfl)(ha:a.put s undef=a1:=by(try simp only[pt]);rfl)(hS:S w:=by exact hHeld)(h6:∀c b u,Q (.panic c) (b.put s undef) u→Q (.panic c) b u:=by exact fun _ _ _ h=>h):bL P md ops Q S n (f+1) listed a w:=by
  subst ha;exact Qd hi h1 h2 h3 h4 h6 (Or.inr ⟨h5,rfl⟩) hS h
theorem rT {id:Nat}(S:World→Prop)(n:List Nat)(h:bL P .any ops Q S n ops.size (Array.replicate ops.size false) a (World.drew w))(hm:P.follows .mixedOrders=true:=by kernel_rfl):(Code.region id ops true).wp P Q a w:=Vv S n hm h
theorem kO {K:Act→World→Prop}{i:Nat}(hK:RowKit.Hid (∀a' w',(i∉n→S w')→bL P md ops Q S n f listed a' w'→K a' w'))(h:bL P md ops Q S n f listed a1 w)(ha:a=a1:=by(try simp only[pt]);rfl)(hs:i∉n→S w:=by first|exact fun h=>absurd (by decide) h|(intro _;exact hHeld)|(intro _;(try dsimp only);go_simp)):K a w:=by
  subst ha;exact hK.out _ _ hs h
end
end
section
theorem aD {W W':World}{a:Addr}{v:Value}(hb:Below W.heap.size W W')(h:W.cell? a=some v):W'.cell? a=some v:=(hb.cell (World.block_lt_of_cell? W a h)).trans h
theorem bR {a b c:World}(hb:Below b.heap.size b c)(h:Below a.heap.size a b):Below a.heap.size a c:=h.trans (hb.mono h.size)
def qN (a l:aZ)(m:Int):List Value:=[.int .i64 a.p,.int .i64 a.v,.int .i64 a.u,.int .i64 l.p,.int .i64 l.v,.int .i64 l.u,.bool false,.int .i64 m]
structure Met (w:World)(mb:Nat)(t:TypeId)(pre post:List Value)(mo:Nat)(a l:aZ)(m:Int):Prop where
 len:pre.length=mo
 blk:aj w mb t (pre++(qN a l m++post)).toArray
section
variable {w w' : World} {mb mo : Nat} {t : TypeId} {pre post : List Value} {a l : aZ} {m : Int}
theorem Met.at_ (h:Met w mb t pre post mo a l m)(i:Nat)(hi:i<8):w.cell? ⟨mb,mo+i,none⟩=(qN a l m)[i]?:=by
 rw[h.blk.cell,List.getElem?_toArray,List.getElem?_append_right (by have:=h.len;omega),List.getElem?_append_left (by have:=h.len;simp[qN];omega)];congr 1;have:=h.len;omega
theorem Met.tF (h:Met w mb t pre post mo a l m)(i:Nat):w.frozen? ⟨mb,i,none⟩=false:=h.blk.frozen i
theorem Met.lt (h:Met w mb t pre post mo a l m):mb<w.heap.size:=h.blk.lt
theorem Met.mod {S:List Nat}(h:Met w mb t pre post mo a l m)(hm:Mod S w w')(hg:mb∉S):Met w' mb t pre post mo a l m:=⟨h.len,h.blk.mod hm hg⟩
instance {w w':World}{mb:Nat}{t:TypeId}{pre post:List Value}{mo:Nat}{a l:aZ}{m:Int}:Md (Met w mb t pre post mo a l m) w w' (Met w' mb t pre post mo a l m) (fun S=>mb∉S):=⟨fun h hm hs=>Met.mod h hm hs⟩
theorem Met.below (h:Met w mb t pre post mo a l m)(hb:Below w.heap.size w w'):Met w' mb t pre post mo a l m:=⟨h.len,h.blk.below hb h.lt⟩
theorem set_mid (pre x post:List Value)(i:Nat)(u:Value)(hi:i<x.length):(pre++(x++post)).toArray.setIfInBounds (pre.length+i) u=(pre++(x.set i u++post)).toArray:=by
 rw[List.setIfInBounds_toArray,List.set_append_right _ _ (by omega),Nat.add_sub_cancel_left,List.set_append_left _ _ hi]
theorem Met.Zm (h:Met w mb t pre post mo a l m)(x:aZ):Met (((w.setCell ⟨mb,mo,none⟩ (.int .i64 x.p)).setCell ⟨mb,mo+1,none⟩ (.int .i64 x.v)).setCell ⟨mb,mo+2,none⟩ (.int .i64 x.u)) mb t pre post mo x l m:=by
 refine⟨h.len, ?_⟩;have:=((h.blk.ak (mo+0) (.int .i64 x.p)).ak (mo+1) (.int .i64 x.v)).ak (mo+2) (.int .i64 x.u);rw[←h.len,set_mid _ _ _ _ _ (by simp[qN]),set_mid _ _ _ _ _ (by simp[qN]),set_mid _ _ _ _ _ (by simp[qN])]at this;rw[←h.len];exact this
theorem Met.KP (h:Met w mb t pre post mo a l m)(x:aZ):Met (((w.setCell ⟨mb,mo+3,none⟩ (.int .i64 x.p)).setCell ⟨mb,mo+3+1,none⟩ (.int .i64 x.v)).setCell ⟨mb,mo+3+2,none⟩ (.int .i64 x.u)) mb t pre post mo a x m:=by
 refine⟨h.len, ?_⟩;have:=((h.blk.ak (mo+3) (.int .i64 x.p)).ak (mo+4) (.int .i64 x.v)).ak (mo+5) (.int .i64 x.u);rw[←h.len,set_mid _ _ _ _ _ (by simp[qN]),set_mid _ _ _ _ _ (by simp[qN]),set_mid _ _ _ _ _ (by simp[qN])]at this;rw[←h.len];exact this
end
def vg (w:World)(mb:Nat)(t:TypeId)(pre post:List Value)(mo:Nat)(a l:aZ)(m:Int)(c:aZ)(e:Ending)(w':World):Prop:=
 e= .returned undef∧Met w' mb t pre post mo (iU a c) (iU l c) m∧Mod [mb] w w'
theorem Il (mb:Nat)(t:TypeId)(pre post:List Value)(mo:Nat)(a l:aZ)(m:Int)(c:aZ)(w:World)(h:Met w mb t pre post mo a l m):
  Calls Tryz.prog 180 #[.pointer (some ⟨mb,mo,none⟩),mI c] w (vg w mb t pre post mo a l m c):=by
 have HP:=qd (fun(x:aZ) (V:World)=>show Calls Tryz.prog 88 #[.agg #[.int .i64 x.p,.int .i64 x.v,.int .i64 x.u],.agg #[.int .i64 c.p,.int .i64 c.v,.int .i64 c.u]] V (fun e w'=>e= .returned (.agg #[.int .i64 (iU x c).p,.int .i64 (iU x c).v,.int .i64 (iU x c).u])∧Below V.heap.size V w')from zx x c V);unfold mI;have hB0:=(Below.refl w.heap.size w).alloc (Nat.le_refl _) (.cells #[.int .i64 c.p,.int .i64 c.v,.int .i64 c.u] 81);have hM:=h.below hB0;have hC:=aj.new w 81 #[.int .i64 c.p,.int .i64 c.v,.int .i64 c.u];have hlt:=h.lt;obtain⟨W,hW⟩:∃W,W=w.alloc (.cells #[.int .i64 c.p,.int .i64 c.v,.int .i64 c.u] 81):=⟨_,rfl⟩;obtain⟨p,hp⟩:∃p,p=w.heap.size:=⟨_,rfl⟩;rw[←hW]at hB0 hM hC;rw[←hp]at hC;have m0:W.cell? ⟨mb,mo,none⟩=some (.int .i64 a.p):=hM.at_ 0 (by omega);have m1:W.cell? ⟨mb,mo+1,none⟩=some (.int .i64 a.v):=hM.at_ 1 (by omega);have m2:W.cell? ⟨mb,mo+2,none⟩=some (.int .i64 a.u):=hM.at_ 2 (by omega);have m3:W.cell? ⟨mb,mo+3,none⟩=some (.int .i64 l.p):=hM.at_ 3 (by omega);have m4:W.cell? ⟨mb,mo+3+1,none⟩=some (.int .i64 l.v):=hM.at_ 4 (by omega);have m5:W.cell? ⟨mb,mo+3+2,none⟩=some (.int .i64 l.u):=hM.at_ 5 (by omega);obtain⟨c0,c1,c2⟩:=hC.c3;have HW:=qd (And.intro hp hW);have HB0:=qd hB0;clear hW hp hC h hB0;go_in;go_upto_region 1 with fail;rw[←HW.out.2,←HW.out.1]
 refine rT (fun w'=>(w'.cell? ⟨mb,mo,none⟩=some (.int .i64 a.p)∧w'.cell? ⟨mb,mo+1,none⟩=some (.int .i64 a.v)∧w'.cell? ⟨mb,mo+2,none⟩=some (.int .i64 a.u)∧w'.cell? ⟨mb,mo+3,none⟩=some (.int .i64 l.p)∧w'.cell? ⟨mb,mo+3+1,none⟩=some (.int .i64 l.v)∧w'.cell? ⟨mb,mo+3+2,none⟩=some (.int .i64 l.u)∧w'.cell? ⟨p,0,none⟩=some (.int .i64 c.p)∧w'.cell? ⟨p,1,none⟩=some (.int .i64 c.v)∧w'.cell? ⟨p,2,none⟩=some (.int .i64 c.u))∧Below W.heap.size W w') [16,19] ?_;have hHeld:(fun w'=>(w'.cell? ⟨mb,mo,none⟩=some (.int .i64 a.p)∧w'.cell? ⟨mb,mo+1,none⟩=some (.int .i64 a.v)∧w'.cell? ⟨mb,mo+2,none⟩=some (.int .i64 a.u)∧w'.cell? ⟨mb,mo+3,none⟩=some (.int .i64 l.p)∧w'.cell? ⟨mb,mo+3+1,none⟩=some (.int .i64 l.v)∧w'.cell? ⟨mb,mo+3+2,none⟩=some (.int .i64 l.u)∧w'.cell? ⟨p,0,none⟩=some (.int .i64 c.p)∧w'.cell? ⟨p,1,none⟩=some (.int .i64 c.v)∧w'.cell? ⟨p,2,none⟩=some (.int .i64 c.u))∧Below W.heap.size W w') (World.drew W):=⟨⟨m0,m1,m2,m3,m4,m5,c0,c1,c2⟩,(Below.refl _ _).drew⟩;refine vW 0 rfl ?_;refine vW 1 rfl ?_;refine vW 2 rfl ?_;refine vW 3 rfl ?_;refine vW 4 rfl ?_;refine vT 5 rfl ?_;refine vT 6 rfl ?_;refine vW 8 rfl ?_;refine vW 9 rfl ?_;refine vW 10 rfl ?_;refine vT 11 rfl ?_;refine vT 12 rfl ?_;refine nT 7 rfl fun K hK=> ?_;go_simp;refine(HP.out a _).mono ?_;rintro e w1 ⟨rfl,hb1⟩;replace hb1:Below W.heap.size W w1:=bR hb1 (Below.refl _ _).drew;go_wp2_with fail
 have hHeld:=show(fun w'=>(w'.cell? ⟨mb,mo,none⟩=some (.int .i64 a.p)∧w'.cell? ⟨mb,mo+1,none⟩=some (.int .i64 a.v)∧w'.cell? ⟨mb,mo+2,none⟩=some (.int .i64 a.u)∧w'.cell? ⟨mb,mo+3,none⟩=some (.int .i64 l.p)∧w'.cell? ⟨mb,mo+3+1,none⟩=some (.int .i64 l.v)∧w'.cell? ⟨mb,mo+3+2,none⟩=some (.int .i64 l.u)∧w'.cell? ⟨p,0,none⟩=some (.int .i64 c.p)∧w'.cell? ⟨p,1,none⟩=some (.int .i64 c.v)∧w'.cell? ⟨p,2,none⟩=some (.int .i64 c.u))∧Below W.heap.size W w') _ from⟨⟨aD hb1 m0,aD hb1 m1,aD hb1 m2,aD hb1 m3,aD hb1 m4,aD hb1 m5,aD hb1 c0,aD hb1 c1,aD hb1 c2⟩,hb1⟩;refine kO hK ?_;clear hK K;refine nT 13 rfl fun K hK=> ?_;go_simp;refine(HP.out l _).mono ?_;rintro e w2 ⟨rfl,hb2⟩;replace hb2:Below W.heap.size W w2:=bR hb2 hb1;have hM2:=hM.below hb2;have fz:=hM2.tF;have n0:=aD hb2 m0;have n1:=aD hb2 m1;have n2:=aD hb2 m2;have n3:=aD hb2 m3;have n4:=aD hb2 m4;have n5:=aD hb2 m5;have g0:=fz mo;have g1:=fz (mo+1);have g2:=fz (mo+2);have g3:=fz (mo+3);have g4:=fz (mo+3+1);have g5:=fz (mo+3+2);clear fz;go_wp2_with fail
 have hHeld:=show(fun w'=>(w'.cell? ⟨mb,mo,none⟩=some (.int .i64 a.p)∧w'.cell? ⟨mb,mo+1,none⟩=some (.int .i64 a.v)∧w'.cell? ⟨mb,mo+2,none⟩=some (.int .i64 a.u)∧w'.cell? ⟨mb,mo+3,none⟩=some (.int .i64 l.p)∧w'.cell? ⟨mb,mo+3+1,none⟩=some (.int .i64 l.v)∧w'.cell? ⟨mb,mo+3+2,none⟩=some (.int .i64 l.u)∧w'.cell? ⟨p,0,none⟩=some (.int .i64 c.p)∧w'.cell? ⟨p,1,none⟩=some (.int .i64 c.v)∧w'.cell? ⟨p,2,none⟩=some (.int .i64 c.u))∧Below W.heap.size W w') _ from⟨⟨aD hb2 m0,aD hb2 m1,aD hb2 m2,aD hb2 m3,aD hb2 m4,aD hb2 m5,aD hb2 c0,aD hb2 c1,aD hb2 c2⟩,hb2⟩;refine kO hK ?_;clear hK K;refine vW 14 rfl ?_;refine vW 15 rfl ?_;refine nT 16 rfl fun K hK=> ?_;go_simp;refine kO hK ?_;clear hK K;refine vL 17 rfl ?_;refine vL 18 rfl ?_;refine nT 19 rfl fun K hK=> ?_;go_simp;refine kO hK ?_;clear hK K;refine aQ (by kernel_rfl) ?_ _;go_wp2;go_end0;exact⟨rfl,(hM2.Zm _).KP _,((((((Mod.of_below (HB0.out.trans (hb2.mono HB0.out.size)) [mb]).ak (.inl (by simp)) _ _).ak (.inl (by simp)) _ _).ak (.inl (by simp)) _ _).ak (.inl (by simp)) _ _).ak (.inl (by simp)) _ _).ak (.inl (by simp)) _ _⟩
end
def aG (p:Option Addr)(c:aZ):Value:= .agg #[.pointer p,.int .i64 c.p,.int .i64 c.v,.int .i64 c.u]
theorem iL (p:Option Addr)(w:World):Calls Tryz.prog 87 #[.pointer p] w fun e w'=>e= .returned (aG p ⟨1,0,0⟩)∧Below w.heap.size w w':=by
 unfold aG;go_in;go_wp2;exact bodyPost_ret (v:= .agg #[.pointer p,.int .i64 1,.int .i64 0,.int .i64 0]) (by simp[results,Tryz.results87,go_sem]) rfl ⟨rfl,(Below.refl _ _).alloc (Nat.le_refl _) _⟩
theorem uq (p:Option Addr)(w:World):Calls Tryz.prog 290 #[.pointer p] w fun e w'=>e= .returned (aG p ⟨0,1,0⟩)∧Below w.heap.size w w':=by
 unfold aG;go_in;go_wp2;exact bodyPost_ret (v:= .agg #[.pointer p,.int .i64 0,.int .i64 1,.int .i64 0]) (by simp[results,Tryz.results290,go_sem]) rfl ⟨rfl,(Below.refl _ _).alloc (Nat.le_refl _) _⟩
theorem GD (c:aZ)(w:World):Calls Tryz.prog 162 #[aG none c] w fun e w'=>e= .returned undef∧Below w.heap.size w w':=by
 unfold aG;go_in;go_wp2;go_end0;exact⟨rfl,(Below.refl _ _).alloc (Nat.le_refl _) _⟩
theorem vg.from {w w1 w':World}{mb:Nat}{t:TypeId}{pre post:List Value}{mo:Nat}{a l:aZ}{m:Int}{c:aZ}{e:Ending}(h:vg w1 mb t pre post mo a l m c e w')(hb:Below w.heap.size w w1):vg w mb t pre post mo a l m c e w':=
 ⟨h.1,h.2.1,(Mod.of_below hb [mb]).then h.2.2⟩
theorem Qe (mb:Nat)(t:TypeId)(pre post:List Value)(mo:Nat)(a l:aZ)(m:Int)(c:aZ)(w:World)(h:Met w mb t pre post mo a l m):
  Calls Tryz.prog 162 #[aG (some ⟨mb,mo,none⟩) c] w (vg w mb t pre post mo a l m c):=by
 unfold aG;have hB:=(Below.refl w.heap.size w).alloc (Nat.le_refl _) (.cells #[.pointer (some ⟨mb,mo,none⟩),.int .i64 c.p,.int .i64 c.v,.int .i64 c.u] 163);have HA:=qd (show Calls Tryz.prog 180 #[.pointer (some ⟨mb,mo,none⟩),.agg #[.int .i64 c.p,.int .i64 c.v,.int .i64 c.u]] (w.alloc (.cells #[.pointer (some ⟨mb,mo,none⟩),.int .i64 c.p,.int .i64 c.v,.int .i64 c.u] 163)) _ from Il mb t pre post mo a l m c _ (h.below hB));have HB:=qd hB;clear h hB;go_in;go_wp2_with fail;refine HA.out.mono ?_;rintro e w1 ⟨rfl,hM,hm⟩;go_wp2;go_end0;exact⟨rfl,hM,(Mod.of_below HB.out [mb]).then hm⟩
theorem Dj (mb:Nat)(t:TypeId)(pre post:List Value)(mo:Nat)(a l:aZ)(m:Int)(w:World)(h:Met w mb t pre post mo a l m):
  Calls Tryz.prog 84 #[.pointer (some ⟨mb,mo,none⟩)] w fun e w'=>e= .returned undef∧Met w' mb t pre post mo a ⟨0,0,0⟩ m∧Mod [mb] w w':=by
 have m3:w.cell? ⟨mb,mo+3,none⟩=some (.int .i64 l.p):=h.at_ 3 (by omega);have m4:w.cell? ⟨mb,mo+3+1,none⟩=some (.int .i64 l.v):=h.at_ 4 (by omega);have m5:w.cell? ⟨mb,mo+3+2,none⟩=some (.int .i64 l.u):=h.at_ 5 (by omega);have g3:=h.tF (mo+3);have g4:=h.tF (mo+3+1);have g5:=h.tF (mo+3+2);have HM:=qd h;clear h;go_in;go_wp2;go_end0;exact⟨rfl,HM.out.KP ⟨0,0,0⟩,(((Mod.refl [mb] w).ak (.inl (by simp)) _ _).ak (.inl (by simp)) _ _).ak (.inl (by simp)) _ _⟩
theorem qO (mb:Nat)(t:TypeId)(pre post:List Value)(mo:Nat)(a l:aZ)(m n:Int)(hn:1≤n)(w:World)(h:Met w mb t pre post mo a l m):
  Calls Tryz.prog 138 #[.pointer (some ⟨mb,mo,none⟩),.int .i64 n] w (vg w mb t pre post mo a l m ⟨0,0,n⟩):=by
 have m6:w.cell? ⟨mb,mo+6,none⟩=some (.bool false):=h.at_ 6 (by omega)
 have hn':¬n<1:=by omega
 have hz:=(Below.refl w.heap.size w).drew;have HA:=qd (show Calls Tryz.prog 180 #[.pointer (some ⟨mb,mo,none⟩),.agg #[.int .i64 0,.int .i64 0,.int .i64 n]] w.drew _ from Il mb t pre post mo a l m ⟨0,0,n⟩ _ (h.below hz));clear h hn;go_in;go_wp2;refine rT (fun w'=>w'.cell? ⟨mb,mo+6,none⟩=some (.bool false)) [] ?_;have hHeld:=m6;refine vW 0 rfl ?_;refine vW 1 rfl ?_;refine vW 2 rfl ?_;refine vT 3 rfl ?_;refine vW 4 rfl ?_;refine vU 5 rfl ?_;refine vU 6 rfl ?_;refine vU 7 rfl ?_;refine vU 8 rfl ?_;refine vU 9 rfl ?_;refine vU 10 rfl ?_;refine vU 11 rfl ?_;refine vU 12 rfl ?_;refine vU 13 rfl ?_;refine vU 14 rfl ?_;refine vU 15 rfl ?_;refine vU 16 rfl ?_;refine vW 17 rfl ?_;refine aQ (by kernel_rfl) ?_ _;go_wp2_with fail;refine HA.out.mono ?_;rintro e w1 ⟨rfl,hM,hm⟩;go_wp2;go_end0;exact⟨rfl,hM,(Mod.of_below hz [mb]).then hm⟩
def bq (g:Addr):Value:= .agg #[.pointer (some g)]
theorem GH (g:Addr)(c:aZ)(w:World):Calls Tryz.prog 126 #[.pointer (some g),aG none c] w fun e w'=>e= .returned (bq g)∧Below w.heap.size w w':=by
 have hB:=((Below.refl w.heap.size w).alloc (Nat.le_refl _) (.cells #[.pointer none,.int .i64 c.p,.int .i64 c.v,.int .i64 c.u] 163)).alloc (by simp) (.cells #[.pointer none] 219);have hD:=aj.new (w.alloc (.cells #[.pointer none,.int .i64 c.p,.int .i64 c.v,.int .i64 c.u] 163)) 219 #[.pointer none];rw[World.size_alloc]at hD;obtain⟨W,hW⟩:∃W,W=(w.alloc (.cells #[.pointer none,.int .i64 c.p,.int .i64 c.v,.int .i64 c.u] 163)).alloc (.cells #[.pointer none] 219):=⟨_,rfl⟩;rw[←hW]at hB hD;have HV:=qd (GD c W);unfold aG at HV⊢
 try unfold bq
 have HW:=qd hW;clear hW;go_in;go_wp2_with fail;rw[←HW.out];refine(HV.out).mono ?_;rintro e w1 ⟨rfl,hb⟩;have hD1:=hD.below hb hD.lt;have d0:=hD1.cell 0;have f0:=hD1.frozen 0;simp only[List.getElem?_toArray,List.getElem?_cons_zero]at d0;have hbw:=hB.trans (hb.mono hB.size);go_wp2;exact bodyPost_ret (v:= .agg #[.pointer (some g)]) (by simp[results,Tryz.results126,go_sem,d0]) rfl ⟨rfl,hbw.setCell (p:=⟨w.heap.size+1,0,none⟩) (by simp) _⟩
def Vx (w:World)(mb:Nat)(t:TypeId)(pre post:List Value)(mo:Nat)(a l:aZ)(m:Int)(c:aZ)(g:Addr)(e:Ending)(w':World):Prop:=
 e= .returned (bq g)∧Met w' mb t pre post mo (iU a c) (iU l c) m∧Mod [mb] w w'
theorem uO (g:Addr)(mb:Nat)(t:TypeId)(pre post:List Value)(mo:Nat)(a l:aZ)(m:Int)(c:aZ)(w:World)(h:Met w mb t pre post mo a l m):Calls Tryz.prog 126 #[.pointer (some g),aG (some ⟨mb,mo,none⟩) c] w (Vx w mb t pre post mo a l m c g):=by
 have hB:=((Below.refl w.heap.size w).alloc (Nat.le_refl _) (.cells #[.pointer (some ⟨mb,mo,none⟩),.int .i64 c.p,.int .i64 c.v,.int .i64 c.u] 163)).alloc (by simp) (.cells #[.pointer none] 219);have hD:=aj.new (w.alloc (.cells #[.pointer (some ⟨mb,mo,none⟩),.int .i64 c.p,.int .i64 c.v,.int .i64 c.u] 163)) 219 #[.pointer none];rw[World.size_alloc]at hD;obtain⟨W,hW⟩:∃W,W=(w.alloc (.cells #[.pointer (some ⟨mb,mo,none⟩),.int .i64 c.p,.int .i64 c.v,.int .i64 c.u] 163)).alloc (.cells #[.pointer none] 219):=⟨_,rfl⟩;rw[←hW]at hB hD;have hlt:=h.lt;have HV:=qd (Qe mb t pre post mo a l m c W (h.below hB));clear h;unfold aG at HV⊢
 try unfold bq
 have HW:=qd hW;clear hW;go_in;go_wp2_with fail;rw[←HW.out];refine(HV.out).mono ?_;rintro e w1 ⟨rfl,hM,hm⟩
 have hne:w.heap.size+1≠mb:=by omega
 have hD1:=hD.mod hm (by simpa using hne);have d0:=hD1.cell 0;have f0:=hD1.frozen 0;simp only[List.getElem?_toArray,List.getElem?_cons_zero]at d0;have hbw:=(Mod.of_below hB [mb]).then hm;go_wp2;exact bodyPost_ret (v:= .agg #[.pointer (some g)]) (by simp[results,Tryz.results126,go_sem,d0]) rfl ⟨rfl,⟨hM.len,hM.blk.far (p:=⟨w.heap.size+1,0,none⟩) (fun e=>hne e.symm) _⟩,hbw.ak (.inr (by simp)) _ _⟩
end Go.Proofs.YtgkeameopnpinaaGreatDoor
