/- A region that draws its order: a condition on the world that holds until the stores begin, which wait for all that is read. No statement of the claim. -/
import Derived.OrdersHeld
import Derived.Test.YtnfjjbpmhcbelaaGreatDoorGaugeA
import Derived.Lib.Hide
import Derived.RowKit
import Derived.OrdersIn
import Derived.ControlIn
import Derived.RangeFuncCalls
import Derived.RangeFuncLeaves
import Derived.WalkKit
import Derived.WalkSpells
import Derived.WalkLawsBesides
import Derived.Maps.AppendAt
import Derived.Deep.AppendLies
import Derived.RegionTactic
import Derived.OwnWalk
namespace Go.Proofs.YtnfjjbpmhcbelaaGreatDoor
open Go Go.RowKit
section
variable {f i : Nat} {listed : Array Bool} {a : Act} {w : World} {oi oj : Oper} {v : Value}
section
variable {P : Program} {ops : Array Oper} {Q : Exit → Act → World → Prop} {md : Region.Mode} {S : World → Prop} {n : List Nat}
def Early (n:List Nat)(listed:Array Bool):Prop:=∀k,k∈n→listed.getD k true=false
theorem rE (hi:i∉n):Early n (listed.setIfInBounds i true)↔Early n listed:=by
 have H:∀k,k∈n→((listed.setIfInBounds i true).getD k true=false↔listed.getD k true=false):=fun k hk=>by
  have hne:i≠k:=fun h=>hi (h▸hk);rw[getD_set_ne true hne]
 exact⟨fun h k hk=>(H k hk).1 (h k hk),fun h k hk=>(H k hk).2 (h k hk)⟩
def bE (P:Program)(md:Region.Mode)(ops:Array Oper)(Q:Exit→Act→World→Prop)(S:World→Prop)(n:List Nat):Nat→Array Bool→Act→World→Prop
 |0,listed,a,w=>Region.ready md ops listed=[]∧Q .normal a w
 |f+1,listed,a,w=>
  (Region.ready md ops listed=[]→Q .normal a w)∧
  ∀i∈Region.ready md ops listed,wpOp P ops Q i (fun a' w'=>(Early n (listed.setIfInBounds i true)→S w')∧bE P md ops Q S n f (listed.setIfInBounds i true) a' w') a w
theorem AX:∀(f:Nat) (listed:Array Bool) (a:Act) (w:World),bE P md ops Q S n f listed a w→wpAny P md ops Q f listed a w
 |0,_,_,_,h=>h
 |f+1,_,_,_,h=>⟨h.1,fun i hi=>wpOp_mono (fun a' w' h'=>AX f _ a' w' h'.2) (h.2 i hi)⟩
theorem XW {id:Nat}(S:World→Prop)(n:List Nat)(hm:P.follows .mixedOrders=true)(h:bE P .any ops Q S n ops.size (Array.replicate ops.size false) a {w with drawn:=w.drawn+1}):(Code.region id ops true).wp P Q a w:=
 wp_region_any hm (AX _ _ _ _ h)
def After (md:Region.Mode)(oj:Oper)(i:Nat):Prop:=∃e∈oj.after,Region.binds md e=true∧e.on=i
def Jg (md:Region.Mode)(ops:Array Oper)(n:List Nat)(i:Nat)(listed:Array Bool):Prop:=
 ∀j oj,ops[j]?=some oj→j∈n→listed.getD j true=false→After md oj i∨∃k ok,ops[k]?=some ok∧listed.getD k true=false∧After md oj k∧After md ok i
def G5 (md:Region.Mode)(oj:Oper)(i:Nat):Bool:=oj.after.any fun e=>Region.binds md e && e.on==i
theorem FY (h:G5 md oj i=true):After md oj i:=by
 obtain⟨e,he,hb⟩:=Array.any_eq_true'.1 h;simp only[Bool.and_eq_true,beq_iff_eq]at hb;exact⟨e,he,hb.1,hb.2⟩
def xL (md:Region.Mode)(ops:Array Oper)(n:List Nat)(i:Nat)(listed:Array Bool):Bool:=
 (n.all fun k=> !listed.getD k true) && (List.range ops.size).all fun j=> !n.contains j||(match ops[j]? with
  |some oj=>G5 md oj i||(List.range ops.size).any fun k=> !listed.getD k true && G5 md oj k && (match ops[k]? with
   |some ok=>G5 md ok i
   |none=>false)
  |none=>true)
theorem G6 (h:xL md ops n i listed=true):Early n listed∧Jg md ops n i listed:=by
 unfold xL at h;rw[Bool.and_eq_true]at h;refine⟨fun k hk=>by simpa using List.all_eq_true.1 h.1 k hk,fun j oj hj hn hl=> ?_⟩;have hlt:j<ops.size:=(Array.getElem?_eq_some_iff.1 hj).1;have h1:=List.all_eq_true.1 h.2 j (List.mem_range.2 hlt);rw[hj,show n.contains j=true by simpa using hn]at h1;simp only[Bool.not_true,Bool.false_or,Bool.or_eq_true]at h1;rcases h1 with h1|h1
 ·exact .inl (FY h1)
 ·obtain⟨k,_,h2⟩:=List.any_eq_true.1 h1;simp only[Bool.and_eq_true,Bool.not_eq_true']at h2;obtain⟨⟨h3,h4⟩,h5⟩:=h2
  cases hk:ops[k]? with
  |none=>rw[hk]at h5;cases h5
  |some ok=>rw[hk]at h5;exact .inr ⟨k,ok,hk,h3,FY h4,FY h5⟩
theorem XY {k:Nat}(h1:listed.getD k false=true)(h0:listed.getD k true=false):False:=by
 rcases Nat.lt_or_ge k listed.size with h'|h'
 ·simp[h']at h0 h1;rw[h0]at h1;cases h1
 ·simp[Array.getElem?_eq_none h']at h1
theorem J6 {j:Nat}(hr:i∈Region.ready md ops listed)(hall:∀e∈oj.after,Region.binds md e=true→listed.getD e.on false=true):∀e∈oj.after,Region.binds md e=true→e.on≠i:=fun e he hb heq=>by
 have _:=j;have h1:=hall e he hb;have h0:=(mem_ready.1 hr).1;rw[heq]at h1;rcases Nat.lt_or_ge i listed.size with h'|h'
 ·simp[h']at h0 h1;rw[h0]at h1;cases h1
 ·simp[Array.getElem?_eq_none h']at h1
theorem PO (hi:ops[i]?=some oi)(hin:i∉n)(hsel:∀(j:Nat) (o:Oper) cs b,ops[j]?=some o→o.op≠ .select cs b)(hQ:∀c a w,Q (.panic c) (a.put oi.dst v) w→Q (.panic c) a w):
  ∀(f:Nat) (listed:Array Bool) (a:Act) (w:World),
   (∀j oj,ops[j]?=some oj→j≠i→listed.getD j true=false→(∀e∈oj.after,Region.binds md e=true→e.on≠i)→oi.apart ops oj=true)→
   Early n listed→Jg md ops n i listed→i∈Region.ready md ops listed→YieldsIf P ops S oi v a→S w→
   bE P md ops Q S n f (listed.setIfInBounds i true) (a.put oi.dst v) w→bE P md ops Q S n (f+1) listed a w:=by
 intro f
 induction f with
 |zero=>
  intro listed a w _ _ _ hr hy hS H;refine⟨(fun h=>by rw[h]at hr;cases hr),fun j hj=> ?_⟩;by_cases hji:j=i
  ·subst hji;exact hy.wpOp hi hS ⟨fun _=>hS,H⟩
  ·have:=ready_mono hj hji;rw[H.1]at this;cases this
 |succ f ih=>
  intro listed a w hfree hE hA hr hy hS H;refine⟨(fun h=>by rw[h]at hr;cases hr),fun j hj=> ?_⟩;by_cases hji:j=i
  ·subst hji;exact hy.wpOp hi hS ⟨fun _=>hS,H⟩
  ·have h1:=H.2 j (ready_mono hj hji);obtain⟨hjun,oj,hoj,hall⟩:=mem_ready.1 hj;have hnot:=J6 (j:=j) hr hall
   have hjn:j∉n:=fun h=>by
    rcases hA j oj hoj h hjun with⟨e,he,hb,heq⟩|⟨k,ok,_,hkl,⟨e,he,hb,heq⟩,_⟩
    ·exact absurd heq (hnot e he hb)
    ·exact XY (heq▸hall e he hb) hkl
   have hEj:Early n (listed.setIfInBounds j true):=(rE hjn).2 hE;have abU:Early n ((listed.setIfInBounds i true).setIfInBounds j true):=(rE hjn).2 ((rE hin).2 hE);have h2:=wpOp_putIf hoj (hfree j oj hoj hji hjun hnot) (fun cs b=>hsel i oi cs b hi) (fun cs b=>hsel j oj cs b hoj) hQ hy h1
   have hfree':∀k ok,ops[k]?=some ok→k≠i→(listed.setIfInBounds j true).getD k true=false→
     (∀e∈ok.after,Region.binds md e=true→e.on≠i)→oi.apart ops ok=true:=fun k ok hk hki hun hno=>by
    refine hfree k ok hk hki ?_ hno;by_cases hjk:j=k
    ·subst hjk;exact hjun
    ·rw[getD_set_ne true hjk]at hun;exact hun
   have hA':Jg md ops n i (listed.setIfInBounds j true):=fun k ok hk hkn hun=>by
    have hun':listed.getD k true=false:=by
     by_cases hjk:j=k
     ·subst hjk;exact hjun
     ·rw[getD_set_ne true hjk]at hun;exact hun
    rcases hA k ok hk hkn hun' with h|⟨k2,Ux,h3,h4,h5,h6⟩
    ·exact .inl h
    ·refine .inr ⟨k2,Ux,h3, ?_,h5,h6⟩
     have hne:j≠k2:=by
      rintro rfl;obtain rfl:Ux=oj:=Option.some.inj (h3.symm.trans hoj);obtain⟨e,he,hb,heq⟩:=h6;exact hnot e he hb heq
     rw[getD_set_ne true hne];exact h4
   refine wpOp_mono (fun a' w' h3=>⟨fun _=>h3.2.1 abU,ih (listed.setIfInBounds j true) a' w' hfree' hEj hA' (ready_mono hr (Ne.symm hji)) h3.1 (h3.2.1 abU) ?_⟩) h2;rw[Array.setIfInBounds_comm _ _ hji];exact h3.2.2
theorem EI (hi:ops[i]?=some oi)(hin:i∉n)(hsel:∀(j:Nat) (o:Oper) cs b,ops[j]?=some o→o.op≠ .select cs b)(hQ:∀c a w,Q (.panic c) (a.put oi.dst v) w→Q (.panic c) a w):
  ∀(f:Nat) (listed:Array Bool) (a:Act) (w:World),
   (∀j oj,ops[j]?=some oj→j≠i→listed.getD j true=false→(∀e∈oj.after,Region.binds md e=true→e.on≠i)→oi.apart ops oj=true)→
   i∈Region.ready md ops listed→YieldsIf P ops (fun _=>True) oi v a→(Early n listed→S w)→
   bE P md ops Q S n f (listed.setIfInBounds i true) (a.put oi.dst v) w→bE P md ops Q S n (f+1) listed a w:=by
 intro f
 induction f with
 |zero=>
  intro listed a w _ hr hy hS H;refine⟨(fun h=>by rw[h]at hr;cases hr),fun j hj=> ?_⟩;by_cases hji:j=i
  ·subst hji;exact hy.wpOp hi trivial ⟨fun h=>hS ((rE hin).1 h),H⟩
  ·have:=ready_mono hj hji;rw[H.1]at this;cases this
 |succ f ih=>
  intro listed a w hfree hr hy hS H;refine⟨(fun h=>by rw[h]at hr;cases hr),fun j hj=> ?_⟩;by_cases hji:j=i
  ·subst hji;exact hy.wpOp hi trivial ⟨fun h=>hS ((rE hin).1 h),H⟩
  ·have h1:=H.2 j (ready_mono hj hji);obtain⟨hjun,oj,hoj,hall⟩:=mem_ready.1 hj;have hnot:=J6 (j:=j) hr hall;have h2:=wpOp_putIf hoj (hfree j oj hoj hji hjun hnot) (fun cs b=>hsel i oi cs b hi) (fun cs b=>hsel j oj cs b hoj) hQ hy h1
   have hfree':∀k ok,ops[k]?=some ok→k≠i→(listed.setIfInBounds j true).getD k true=false→
     (∀e∈ok.after,Region.binds md e=true→e.on≠i)→oi.apart ops ok=true:=fun k ok hk hki hun hno=>by
    refine hfree k ok hk hki ?_ hno;by_cases hjk:j=k
    ·subst hjk;exact hjun
    ·rw[getD_set_ne true hjk]at hun;exact hun
   have hEq:Early n (listed.setIfInBounds j true)→Early n ((listed.setIfInBounds i true).setIfInBounds j true):=fun h=>by
    rw[Array.setIfInBounds_comm _ _ (Ne.symm hji)];exact(rE hin).2 h
   refine wpOp_mono (fun a' w' h3=>⟨fun h=>h3.2.1 (hEq h),ih (listed.setIfInBounds j true) a' w' hfree' (ready_mono hr (Ne.symm hji)) h3.1 (fun h=>h3.2.1 (hEq h)) ?_⟩) h2;rw[Array.setIfInBounds_comm _ _ hji];exact h3.2.2
theorem aao (hi:ops[i]?=some oi)(hs:Region.noSelect ops=true)(hf:Region.free md ops listed i=true)(hr:(Region.ready md ops listed).contains i=true)(hin:n.contains i=false)(hA:xL md ops n i listed=true)(hQ:∀c a w,Q (.panic c) (a.put oi.dst v) w→Q (.panic c) a w)(hy:YieldsIf P ops S oi v a)(hS:S w)(h:bE P md ops Q S n f (listed.setIfInBounds i true) (a.put oi.dst v) w):bE P md ops Q S n (f+1) listed a w:=
 PO hi (by simpa using hin) (Region.noSelect_spec hs) hQ f listed a w (Region.free_spec hi hf) (G6 hA).1 (G6 hA).2 (by simpa using hr) hy hS h
theorem R3 (hi:ops[i]?=some oi)(hs:Region.noSelect ops=true)(hf:Region.free md ops listed i=true)(hr:(Region.ready md ops listed).contains i=true)(hin:n.contains i=false)(hQ:∀c a w,Q (.panic c) (a.put oi.dst v) w→Q (.panic c) a w)(hy:YieldsIf P ops (fun _=>True) oi v a)(hS:S w)(h:bE P md ops Q S n f (listed.setIfInBounds i true) (a.put oi.dst v) w):bE P md ops Q S n (f+1) listed a w:=
 EI hi (by simpa using hin) (Region.noSelect_spec hs) hQ f listed a w (Region.free_spec hi hf) (by simpa using hr) hy (fun _=>hS) h
theorem adx (hi:ops[i]?=some oi)(hs:Region.noSelect ops=true)(hf:Region.free md ops listed i=true)(hr:(Region.ready md ops listed).contains i=true)(hin:n.contains i=false)(hQ:∀c a w,Q (.panic c) (a.put oi.dst v) w→Q (.panic c) a w)(hy:YieldsIf P ops (fun _=>True) oi v a)(hl:(n.any fun k=>listed.getD k true)=true)(h:bE P md ops Q S n f (listed.setIfInBounds i true) (a.put oi.dst v) w):bE P md ops Q S n (f+1) listed a w:=
 EI hi (by simpa using hin) (Region.noSelect_spec hs) hQ f listed a w (Region.free_spec hi hf) (by simpa using hr) hy (fun hE=>by
  obtain⟨k,hk,h1⟩:=List.any_eq_true.1 hl
  rw[hE k hk]at h1;cases h1) h
theorem pK {o:Oper}(hi:ops[i]?=some o)(hr:Region.ready md ops listed=[i])(h:∀K:Act→World→Prop,RowKit.Hid (∀a' w',(i∉n→S w')→bE P md ops Q S n f (listed.setIfInBounds i true) a' w'→K a' w')→if Region.wanted o (yielded ops a.tmps)=true then o.wp P a w K Q else K (a.put o.dst undef) w):bE P md ops Q S n (f+1) listed a w:=by
 refine⟨(fun h0=>by rw[hr]at h0;cases h0),fun j hj=> ?_⟩;rw[hr]at hj
 obtain rfl:j=i:=by simpa using hj
 have hun:listed.getD j true=false:=(mem_ready.1 (by rw[hr];simp:j∈Region.ready md ops listed)).1;unfold wpOp;simp only[hi]
 have:=h (fun a' w'=>(Early n (listed.setIfInBounds j true)→S w')∧bE P md ops Q S n f (listed.setIfInBounds j true) a' w') (qd fun a' w' h1 h2=>⟨fun hE=>by
  by_cases hjn:j∈n
  ·have h3:=hE j hjn
   have hlt:j<listed.size:=by
    rcases Nat.lt_or_ge j listed.size with h'|h'
    ·exact h'
    ·simp[Array.getElem?_eq_none h']at hun
   simp[hlt]at h3
  ·exact h1 hjn,h2⟩)
 split
 ·next hw=>rw[if_pos hw]at this;exact .inl this
 ·next hw=>rw[if_neg hw]at this;exact this
theorem aR (hr:Region.ready md ops listed=[])(h:Q .normal a w):∀f,bE P md ops Q S n f listed a w
 |0=>⟨hr,h⟩
 |_+1=>⟨fun _=>h,by rw[hr];simp⟩
end
end
section
section
variable {P : Program} {ops : Array Oper} {Q : Exit → Act → World → Prop} {md : Region.Mode} {S : World → Prop} {n : List Nat} {f : Nat} {listed : Array Bool} {a : Act} {w : World} {o1 : Op} {o2 : TypeId} {o3 : String} {o4 : Array Edge} {o5 : Option (Nat × Bool)}
theorem tW (i:Nat)(s:Option Tmp)(v:Value)(hi:ops[i]?=some ⟨s,o1,o2,o3,o4,o5⟩)(hS:S w)(h:bE P md ops Q S n f (listed.setIfInBounds i true) (a.put s v) w)(h1:Region.noSelect ops=true:=by kernel_rfl)(h2:Region.free md ops listed i=true:=by kernel_rfl)(h3:(Region.ready md ops listed).contains i=true:=by kernel_rfl)(h4:n.contains i=false:=by rfl)(h5:Region.wanted ⟨s,o1,o2,o3,o4,o5⟩ (yielded ops a.tmps)=true:=by rfl)(h7:∀w,True→(execOp a.eval ⟨s,o1,o2,o3,o4,o5⟩).run P w= .ok (.value v) w:=by rintro w-;go_simp)(h6:∀c b u,Q (.panic c) (b.put s v) u→Q (.panic c) b u:=by exact fun _ _ _ h=>h):bE P md ops Q S n (f+1) listed a w:=
  R3 hi h1 h2 h3 h4 h6 (Or.inl ⟨h5,h7⟩) hS h
theorem tT (i:Nat)(s:Option Tmp)(v:Value)(hi:ops[i]?=some ⟨s,o1,o2,o3,o4,o5⟩)(h7:∀w,S w→(execOp a.eval ⟨s,o1,o2,o3,o4,o5⟩).run P w= .ok (.value v) w)(hS:S w)(h:bE P md ops Q S n f (listed.setIfInBounds i true) (a.put s v) w)(h1:Region.noSelect ops=true:=by kernel_rfl)(h2:Region.free md ops listed i=true:=by kernel_rfl)(h3:(Region.ready md ops listed).contains i=true:=by kernel_rfl)(h4:n.contains i=false:=by rfl)(h5:Region.wanted ⟨s,o1,o2,o3,o4,o5⟩ (yielded ops a.tmps)=true:=by rfl)(h8:xL md ops n i listed=true:=by kernel_rfl)(h6:∀c b u,Q (.panic c) (b.put s v) u→Q (.panic c) b u:=by exact fun _ _ _ h=>h):bE P md ops Q S n (f+1) listed a w:=
  aao hi h1 h2 h3 h4 h8 h6 (Or.inl ⟨h5,h7⟩) hS h
theorem nT (i:Nat){s:Option Tmp}(hi:ops[i]?=some ⟨s,o1,o2,o3,o4,o5⟩)(h:∀K:Act→World→Prop,RowKit.Hid (∀a' w',(i∉n→S w')→bE P md ops Q S n f (listed.setIfInBounds i true) a' w'→K a' w')→if Region.wanted ⟨s,o1,o2,o3,o4,o5⟩ (yielded ops a.tmps)=true then(Oper.mk s o1 o2 o3 o4 o5).wp P a w K Q else K (a.put s undef) w)(hr:Region.ready md ops listed=[i]:=by kernel_rfl):bE P md ops Q S n (f+1) listed a w:=pK hi hr h
variable {s : Option Tmp} {v : Value} {a1 : Act}
theorem vW (i:Nat)(hi:ops[i]?=some ⟨s,o1,o2,o3,o4,o5⟩)(h:bE P md ops Q S n f (listed.setIfInBounds i true) a1 w)(h1:Region.noSelect ops=true:=by kernel_rfl)(h2:Region.free md ops listed i=true:=by kernel_rfl)(h3:(Region.ready md ops listed).contains i=true:=by kernel_rfl)(h4:n.contains i=false:=by rfl)(h5:Region.wanted ⟨s,o1,o2,o3,o4,o5⟩ (yielded ops a.tmps)=true:=by rfl)(h7:∀w,True→(execOp a.eval ⟨s,o1,o2,o3,o4,o5⟩).run P w= .ok (.value v) w:=by rintro w-;go_simp<;>rfl)(ha:a.put s v=a1:=by(try simp only[pt]);rfl)(hS:S w:=by exact hHeld)(h6:∀c b u,Q (.panic c) (b.put s v) u→Q (.panic c) b u:=by exact fun _ _ _ h=>h):bE P md ops Q S n (f+1) listed a w:=by
  subst ha;exact R3 hi h1 h2 h3 h4 h6 (Or.inl ⟨h5,h7⟩) hS h
theorem vL (i:Nat)(hi:ops[i]?=some ⟨s,o1,o2,o3,o4,o5⟩)(h:bE P md ops Q S n f (listed.setIfInBounds i true) a1 w)(h1:Region.noSelect ops=true:=by kernel_rfl)(h2:Region.free md ops listed i=true:=by kernel_rfl)(h3:(Region.ready md ops listed).contains i=true:=by kernel_rfl)(h4:n.contains i=false:=by rfl)(h5:Region.wanted ⟨s,o1,o2,o3,o4,o5⟩ (yielded ops a.tmps)=true:=by rfl)(h7:∀w,True→(execOp a.eval ⟨s,o1,o2,o3,o4,o5⟩).run P w= .ok (.value v) w:=by rintro w-;go_simp<;>rfl)(h8:(n.any fun k=>listed.getD k true)=true:=by kernel_rfl)(ha:a.put s v=a1:=by(try simp only[pt]);rfl)(h6:∀c b u,Q (.panic c) (b.put s v) u→Q (.panic c) b u:=by exact fun _ _ _ h=>h):bE P md ops Q S n (f+1) listed a w:=by
  subst ha;exact adx hi h1 h2 h3 h4 h6 (Or.inl ⟨h5,h7⟩) h8 h
theorem vT (i:Nat)(hi:ops[i]?=some ⟨s,o1,o2,o3,o4,o5⟩)(h:bE P md ops Q S n f (listed.setIfInBounds i true) a1 w)(h1:Region.noSelect ops=true:=by kernel_rfl)(h2:Region.free md ops listed i=true:=by kernel_rfl)(h3:(Region.ready md ops listed).contains i=true:=by kernel_rfl)(h4:n.contains i=false:=by rfl)(h5:Region.wanted ⟨s,o1,o2,o3,o4,o5⟩ (yielded ops a.tmps)=true:=by rfl)(h7:∀w,S w→(execOp a.eval ⟨s,o1,o2,o3,o4,o5⟩).run P w= .ok (.value v) w:=by intro w hh;(try dsimp only at hh);go_simp<;>rfl)(h8:xL md ops n i listed=true:=by kernel_rfl)(ha:a.put s v=a1:=by(try simp only[pt]);rfl)(hS:S w:=by exact hHeld)(h6:∀c b u,Q (.panic c) (b.put s v) u→Q (.panic c) b u:=by exact fun _ _ _ h=>h):bE P md ops Q S n (f+1) listed a w:=by
  subst ha;exact aao hi h1 h2 h3 h4 h8 h6 (Or.inl ⟨h5,h7⟩) hS h
theorem vU (i:Nat)(hi:ops[i]?=some ⟨s,o1,o2,o3,o4,o5⟩)(h:bE P md ops Q S n f (listed.setIfInBounds i true) a1 w)(h1:Region.noSelect ops=true:=by kernel_rfl)(h2:Region.free md ops listed i=true:=by kernel_rfl)(h3:(Region.ready md ops listed).contains i=true:=by kernel_rfl)(h4:n.contains i=false:=by rfl)(h5:Region.wanted ⟨s,o1,o2,o3,o4,o5⟩ (yielded ops a.tmps)=false:=by rfl)(ha:a.put s undef=a1:=by(try simp only[pt]);rfl)(hS:S w:=by exact hHeld)(h6:∀c b u,Q (.panic c) (b.put s undef) u→Q (.panic c) b u:=by exact fun _ _ _ h=>h):bE P md ops Q S n (f+1) listed a w:=by
  subst ha;exact R3 hi h1 h2 h3 h4 h6 (Or.inr ⟨h5,rfl⟩) hS h
theorem rT {id:Nat}(S:World→Prop)(n:List Nat)(h:bE P .any ops Q S n ops.size (Array.replicate ops.size false) a (World.drew w))(hm:P.follows .mixedOrders=true:=by kernel_rfl):(Code.region id ops true).wp P Q a w:=XW S n hm h
theorem kO {K:Act→World→Prop}{i:Nat}(hK:RowKit.Hid (∀a' w',(i∉n→S w')→bE P md ops Q S n f listed a' w'→K a' w'))(h:bE P md ops Q S n f listed a1 w)(ha:a=a1:=by(try simp only[pt]);rfl)(hs:i∉n→S w:=by first|exact fun h=>absurd (by decide) h|(intro _;exact hHeld)|(intro _;(try dsimp only);go_simp)):K a w:=by
  subst ha;exact hK.out _ _ hs h
end
end
section
variable {i l n : Nat} {a : Act} {w : World} {F : Fence} {c : Code}
section
variable {P : Program} {ops : Array Oper} {Q : Exit → Act → World → Prop} {md : Region.Mode} {S : World → Prop} {late : List Nat}
def En (ops:Array Oper):Bool:=ops.all fun o=>match o.op with
 | .defer _=>false
 |_=>true
theorem MN (h:En ops=true)(i:Nat)(o:Oper)(hi:ops[i]?=some o)(c:Call):o.op≠ .defer c:=fun he=>by
 obtain⟨hlt,rfl⟩:=Array.getElem?_eq_some_iff.1 hi;have:=Array.all_eq_true.1 h i hlt;rw[he]at this;cases this
theorem Uy {K K':Act→World→Prop}(hnd:En ops=true)(hQ:¬LetsOut Q)(hK:∀a w,K a w→K' a w)(h:wpOp P ops Q i K a w):wpOpIn (Fence.wide.inRound l) n P ops Q i K' a w:=by
 unfold wpOp at h;unfold wpOpIn
 cases hi:ops[i]? with
 |none=>rw[hi]at h;exact hK _ _ h
 |some o=>
  rw[hi]at h;dsimp only at h⊢;split
  ·next hw=>
   rw[if_pos hw]at h;rcases h with h|⟨_,hl⟩
   ·refine⟨fun _ _=>trivial, ?_⟩;rw[Oper.semAt_eq _ _ _ (MN hnd i o hi)];unfold Oper.wp at h;generalize(execOp a.eval o).run P w=r at*
    cases r with
    |ok x w'=>
     cases x<;>simp only[Oper.upon,Oper.uponIn]at h⊢
     case value u=>exact hK _ _ h
     case skip=>exact hK _ _ h
     case defer d=>exact hK _ _ h
     case enter f args=>
      refine⟨fun hd=>by simp[Fence.wide]at hd,CallsIn.inRound l ((callsIn_wide.2 h).mono fun e w'' he=> ?_)⟩
      cases e with
      |returned u=>exact hK _ _ he
      |panicked c=>exact he
      |outgrown=>exact he
     case row row args=>
      refine⟨fun hd=>by simp[Fence.wide]at hd,fun c cs _=> ?_⟩;obtain⟨v,w1,h1,h2⟩:=h c cs;exact⟨v,w1,hK _ _ h1,stepsIn_wide.2 h2⟩
    |halt x w'=>cases x<;>simp only[Oper.upon,Oper.uponIn]at h⊢<;>exact h
   ·exact absurd hl hQ
  ·next hw=>
   rw[if_neg hw]at h;exact⟨fun _ _=>trivial,hK _ _ h⟩
theorem G7 (hnd:En ops=true)(hQ:¬LetsOut Q):∀(f:Nat) (listed:Array Bool) (a:Act) (w:World),wpAny P md ops Q f listed a w→wpAnyIn (Fence.wide.inRound l) n P md ops Q f listed a w
 |0,_,_,_,h=>h
 |f+1,_,_,_,h=>⟨h.1,fun i hi=>Uy hnd hQ (fun a' w' h'=>G7 hnd hQ f _ a' w' h') (h.2 i hi)⟩
theorem AY {id:Nat}(S:World→Prop)(late:List Nat)(hm:P.follows .mixedOrders=true)(hnd:En ops=true)(hQ:¬LetsOut Q)(h:bE P .any ops Q S late ops.size (Array.replicate ops.size false) a {w with drawn:=w.drawn+1}):(Code.region id ops true).wpIn (Fence.wide.inRound l) n P Q a w:=
 wpIn_region_any hm (G7 hnd hQ _ _ _ _ (AX _ _ _ _ h))
theorem pairT {j:Nat}{o o':Oper}{f:Nat}{listed:Array Bool}(hi:ops[i]?=some o)(hj:ops[j]?=some o')(hr:Region.ready md ops listed=[i,j])(h1:∀K:Act→World→Prop,RowKit.Hid (∀a' w',(i∉late→S w')→bE P md ops Q S late f (listed.setIfInBounds i true) a' w'→K a' w')→if Region.wanted o (yielded ops a.tmps)=true then o.wp P a w K Q else K (a.put o.dst undef) w)(h2:∀K:Act→World→Prop,RowKit.Hid (∀a' w',(j∉late→S w')→bE P md ops Q S late f (listed.setIfInBounds j true) a' w'→K a' w')→if Region.wanted o' (yielded ops a.tmps)=true then o'.wp P a w K Q else K (a.put o'.dst undef) w):bE P md ops Q S late (f+1) listed a w:=by
 have one:∀(k:Nat) (x:Oper),ops[k]?=some x→k∈Region.ready md ops listed→
   (∀K:Act→World→Prop,RowKit.Hid (∀a' w',(k∉late→S w')→bE P md ops Q S late f (listed.setIfInBounds k true) a' w'→K a' w')→if Region.wanted x (yielded ops a.tmps)=true then x.wp P a w K Q else K (a.put x.dst undef) w)→
   wpOp P ops Q k (fun a' w'=>(Early late (listed.setIfInBounds k true)→S w')∧bE P md ops Q S late f (listed.setIfInBounds k true) a' w') a w:=by
  intro k x hk hkr h;have hun:listed.getD k true=false:=(mem_ready.1 hkr).1;unfold wpOp;simp only[hk]
  have:=h (fun a' w'=>(Early late (listed.setIfInBounds k true)→S w')∧bE P md ops Q S late f (listed.setIfInBounds k true) a' w') (qd fun a' w' h1 h2=>⟨fun hE=>by
   by_cases hkn:k∈late
   ·have h3:=hE k hkn
    have hlt:k<listed.size:=by
     rcases Nat.lt_or_ge k listed.size with h'|h'
     ·exact h'
     ·simp[Array.getElem?_eq_none h']at hun
    simp[hlt]at h3
   ·exact h1 hkn,h2⟩)
  split
  ·next hw=>rw[if_pos hw]at this;exact .inl this
  ·next hw=>rw[if_neg hw]at this;exact this
 refine⟨(fun h0=>by rw[hr]at h0;cases h0),fun k hk=> ?_⟩;have hk':=hk;rw[hr]at hk;rcases List.mem_cons.1 hk with rfl|hk
 ·exact one _ o hi hk' h1
 ·obtain rfl:k=j:=by simpa using hk
  exact one _ o' hj hk' h2
def abV (R:Act→World→Prop)(Q:Exit→Act→World→Prop):Exit→Act→World→Prop
 | .normal,a,w=>R a w
 |e,a,w=>Q e a w
theorem adT (R:Act→World→Prop)(h:c.wpIn F n P (abV R Q) a w)(hR:∀a w,R a w→Q .normal a w):c.wpIn F n P Q a w:=
 wpIn_mono h fun e a w hq=>by cases e<;>first|exact hR _ _ hq|exact hq
def aap (Q:Exit→Act→World→Prop):Exit→Act→World→Prop
 | .panic _,_,_=>False
 |e,a,w=>Q e a w
theorem kV {f:FuncId}{fn:Func}{args:Array Value}{R:Ending→World→Prop}(hf:P.funcs[f]?=some fn)(hb:fn.body=some c)(hF:F.fn f)(hro:F.round=none)(h:c.wpIn F n P (aap (bodyPostM F n P fn R)) {tmps:=args++Array.replicate (fn.ntmps-args.size) undef,defers:=[]} w):CallsIn F n P f args w R:=
 callsIn_of_wp_marks hf hb hF (wpIn_mono h fun e _ _ hq=>by cases e<;>first|exact hq|exact hq.elim) hro
end
end
section
section
variable {w w' : World} {g : Nat} {t : TypeId} {cs : Array Value}
theorem aj.AZ (h:aj w g t cs){i:Nat}{u:Value}(hu:cs[i]?=some u):w.setCell ⟨g,i,none⟩ u=w:=by
  have e:(w.setCell ⟨g,i,none⟩ u).heap=w.heap:=by
    apply Array.ext_getElem?;intro j;by_cases hj:j=g
    · subst hj;have h1:=h.ak i u;unfold aj at h1 h;rw[h1,h]
      have:cs.setIfInBounds i u=cs:=by
        apply Array.ext_getElem?;intro k;rw[Array.getElem?_setIfInBounds];split
        · next hk => subst hk; split
                     · exact hu.symm
                     · next hlt=>rw[Array.getElem?_eq_none (by omega)]at hu;cases hu
        · rfl
      rw[this]
    · exact Below.heap_setCell w _ u j hj
  cases w;simp only[World.setCell]at e⊢;rw[e]
end
/-- 'x[i:]' -/
theorem R4 {P:Program}{t e:TypeId}{size:Nat}(hu:P.underlying t=some (.slice e))(hs:∀w,(sizeOf e).run P w= .ok size w)(b off n c i:Nat)(hi:i≤n)(W:World):
    (Instr.slice t (.slice (some ⟨b,off,none⟩) n c) (some (.int .i64 (i:Int))) none none).run P W= .ok (.slice (if c=i then some ⟨b,off,none⟩else some ⟨b,off+i*size,none⟩) (n-i) (c-i)) W:=by
  simp[Instr.slice,run_underlying hu,go_sem,hs];intro h;omega
/-- 'x[:j]' -/
theorem MO {P:Program}{t e:TypeId}{size:Nat}(hu:P.underlying t=some (.slice e))(hs:∀w,(sizeOf e).run P w= .ok size w)(A:Option Addr)(n c j:Nat)(hj:j≤c)(W:World):
    (Instr.slice t (.slice A n c) none (some (.int .i64 (j:Int))) none).run P W= .ok (.slice A j c) W:=by
  cases A<;>simp[Instr.slice,run_underlying hu,go_sem,hs]
  all_goals (intro h;omega)
end
section
variable {o : Oper} {a : Act} {K : Act → World → Prop} {Q : Exit → Act → World → Prop} {ops : Array Oper} {rest : List Oper} {E : Prop} {B base bytes c m n size : Nat} {e t : TypeId} {v : Value} {news xs : List Value} {s x : Operand} {A : Option Addr}
section
variable {P : Program} (w : World)
theorem EB (base:Nat)(t ty e:TypeId)(i:TypeInfo)(size:Nat)(ht:P.underlying t=some (.slice e))(hi:P.info? e=some i)(v:Value)(n:Nat)(xs:List Value)(hown:w.ownsRow base e size v n xs)(c:Nat):(Builtin.append_ #[t,t] ty #[v,.slice none 0 c]).run P w= .ok v w:=by
 rcases hown.2 with⟨rfl,rfl⟩|⟨g,cap,cur,rfl,_,_,hnc,_⟩
 ·simp[Builtin.append_,run_underlying ht,sizeOf,typeInfo,hi,Builtin.lenOf,Builtin.firstCells]
 ·simp[Builtin.append_,run_underlying ht,sizeOf,typeInfo,hi,Builtin.lenOf,Builtin.firstCells,hnc,storeCells]
theorem Jh (base:Nat)(t ty e:TypeId)(i:TypeInfo)(z:Value)(size bytes:Nat)(ht:P.underlying t=some (.slice e))(hi:P.info? e=some i)(hz:i.zero=some z)(hsize:i.size=size)(hby:i.bytes=bytes)(hzs:z.cells.size=size)(hsz:0<size)(v:Value)(n:Nat)(xs:List Value)(hown:w.ownsRow base e size v n xs)(B:Nat)(A:Option Addr)(m c:Nat)(news:List Value)(hr:Reads w B size A m news)(h1:∀u∈news,u.oneCell'=true)(h63:n+m≤maxLen)(hbytes:(n+m)*bytes≤140737488355328)(hbase:base≤w.heap.size):
  ∃v' w',(Builtin.append_ #[t,t] ty #[v,.slice A m c]).run P w= .ok v' w'∧w'.ownsRow base e size v' (n+m) (xs++news)∧w.grownBy w' v.ownBlock∧
   (v'.ownBlock=v.ownBlock∨v'.ownBlock=some w.heap.size):=by
 rcases A with _|ad
 ·have hm:m=0:=by
   rcases Nat.eq_zero_or_pos m with h0|h0
   ·exact h0
   ·obtain⟨b,off,h,_⟩:=hr.2 h0;cases h
  subst hm;have hn:news=[]:=List.eq_nil_of_length_eq_zero (by simpa using hr.1);subst hn;exact⟨v,w,EB w base t ty e i size ht hi v n xs hown c,by simpa using hown,World.grownBy.refl w _,.inl rfl⟩
 ·have hcells:∀j u,news[j]?=some u→w.cell? (ad.add j)=some u:=by
   intro j u hu;rcases Nat.eq_zero_or_pos m with h0|h0
   ·subst h0;have hn:news=[]:=List.eq_nil_of_length_eq_zero (by simpa using hr.1);subst hn;simp at hu
   ·obtain⟨b,off,h,_,hc⟩:=hr.2 h0
    injection h with h
    subst h;rw[show(⟨b,off,none⟩:Addr).add j=⟨b,off+j,none⟩from by unfold Addr.add;split<;>simp_all];exact hc j u hu
  obtain⟨v',w',hrun,h2,h3,_,h5⟩:=run_append_own_at (P:=P) w base t ty e i z size bytes ht hi hz hsize hby hzs hsz v n xs hown ad m c news hr.1 hcells h1 h63 hbytes hbase;exact⟨v',w',hrun,h2,h3,h5⟩
theorem Ca (s x:Operand)(t:TypeId)(ho:o.op= .call {callee:= .builtin .append,args:= #[s,x],argTypes:= #[t,t]})(base:Nat)(e:TypeId)(i:TypeInfo)(z:Value)(size bytes:Nat)(ht:P.underlying t=some (.slice e))(hi:P.info? e=some i)(hz:i.zero=some z)(hsize:i.size=size)(hby:i.bytes=bytes)(hzs:z.cells.size=size)(hsz:0<size)(v:Value)(n:Nat)(xs:List Value)(hs:a.eval s=v)(hown:w.ownsRow base e size v n xs)(B:Nat)(A:Option Addr)(m c:Nat)(news:List Value)(hx:a.eval x= .slice A m c)(hr:Reads w B size A m news)(h1:∀u∈news,u.oneCell'=true)(h63:n+m≤maxLen)(hbytes:(n+m)*bytes≤140737488355328)(hbase:base≤w.heap.size)(h:∀v' w',w'.ownsRow base e size v' (n+m) (xs++news)→w.grownBy w' v.ownBlock→(v'.ownBlock=v.ownBlock∨v'.ownBlock=some w.heap.size)→K (a.put o.dst v') w'):o.wp P a w K Q:=by
 obtain⟨v',w',hrun,h2,h3,h4⟩:=Jh (P:=P) w base t o.type e i z size bytes ht hi hz hsize hby hzs hsz v n xs hown B A m c news hr h1 h63 hbytes hbase;unfold Oper.wp execOp;simp only[ho,resolve,invoke,builtin,Sem.run_bind,Sem.run_pure,Result.andThen_ok,List.map_toArray,List.map_cons,List.map_nil,hs,hx,hrun];exact h v' w' h2 h3 h4
theorem EC (hgd:o.guard=none)(s x:Operand)(t:TypeId)(ho:o.op= .call {callee:= .builtin .append,args:= #[s,x],argTypes:= #[t,t]})(base:Nat)(e:TypeId)(i:TypeInfo)(z:Value)(size bytes:Nat)(ht:P.underlying t=some (.slice e))(hi:P.info? e=some i)(hz:i.zero=some z)(hsize:i.size=size)(hby:i.bytes=bytes)(hzs:z.cells.size=size)(hsz:0<size)(v:Value)(n:Nat)(xs:List Value)(hs:a.eval s=v)(hown:w.ownsRow base e size v n xs)(B:Nat)(A:Option Addr)(m c:Nat)(news:List Value)(hx:a.eval x= .slice A m c)(hr:Reads w B size A m news)(h1:∀u∈news,u.oneCell'=true)(h63:n+m≤maxLen)(hbytes:(n+m)*bytes≤140737488355328)(hbase:base≤w.heap.size)(h:∀v' w',w'.ownsRow base e size v' (n+m) (xs++news)→w.grownBy w' v.ownBlock→(v'.ownBlock=v.ownBlock∨v'.ownBlock=some w.heap.size)→wpList P ops Q rest (a.put o.dst v') w'):wpList P ops Q (o::rest) a w:=
 wpList_plain hgd fun _ hK=>Ca w s x t ho base e i z size bytes ht hi hz hsize hby hzs hsz v n xs hs hown B A m c news hx hr h1 h63 hbytes hbase fun v' w' h2 h3 h4=>hK _ _ (h v' w' h2 h3 h4)
theorem G8 (hgd:o.guard=none)(s x:Operand)(t:TypeId)(ho:o.op= .call {callee:= .builtin .append,args:= #[s,x],argTypes:= #[t,t]})(base:Nat)(e:TypeId)(i:TypeInfo)(z:Value)(size bytes:Nat)(ht:P.underlying t=some (.slice e))(hi:P.info? e=some i)(hz:i.zero=some z)(hsize:i.size=size)(hby:i.bytes=bytes)(hzs:z.cells.size=size)(hsz:0<size)(v:Value)(n:Nat)(xs:List Value)(hs:a.eval s=v)(hown:w.ownsRow base e size v n xs)(B:Nat)(A:Option Addr)(m c:Nat)(news:List Value)(hx:a.eval x= .slice A m c)(hr:Reads w B size A m news)(h1:∀u∈news,u.oneCell'=true)(h63:n+m≤maxLen)(hbytes:(n+m)*bytes≤140737488355328)(hbase:base≤w.heap.size)(h:∀v' w',w'.ownsRow base e size v' (n+m) (xs++news)→w.grownBy w' v.ownBlock→(v'.ownBlock=v.ownBlock∨v'.ownBlock=some w.heap.size)→K (a.put o.dst v') w'):
  if Region.wanted o (yielded ops a.tmps)=true then Oper.wp P o a w K Q else E:=by
 have hw:Region.wanted o (yielded ops a.tmps)=true:=by simp[Region.wanted,hgd]
 rw[if_pos hw];exact Ca w s x t ho base e i z size bytes ht hi hz hsize hby hzs hsz v n xs hs hown B A m c news hx hr h1 h63 hbytes hbase h
end
theorem Qz {v':Value}{w w':World}(hown:w.ownsRow base e size v n xs)(hbase:base≤w.heap.size)(hg:w.grownBy w' v.ownBlock)(hat:v'.ownBlock=v.ownBlock∨v'.ownBlock=some w.heap.size):nA w base v w' v':=
 ⟨(Below.refl base w).grown hg hbase (fun k hk=>(hown.lt k hk).1),hg,hat.imp_right fun h=>⟨_,h,Nat.le_refl _⟩⟩
theorem eB {P:Program}{w:World}(hgd:o.guard=none)(ho:o.op= .call {callee:= .builtin .append,args:= #[s,x],argTypes:= #[t,t]})(hT:sH P t e size bytes)(hown:w.ownsRow base e size v n xs)(hs:a.eval s=v)(hx:a.eval x= .slice A m c)(hr:Reads w B size A m news)(h1':(news.all fun u=>u.oneCell')=true)(hn:n+m<33554432)(hbase:base≤w.heap.size)(h:∀v' w',w'.ownsRow base e size v' (n+m) (xs++news)→nA w base v w' v'→K (a.put o.dst v') w'):
  if Region.wanted o (yielded ops a.tmps)=true then Oper.wp P o a w K Q else E:=by
 obtain⟨i,z,ht,hi,hz,hsize,hby,hzs,hsz,hb⟩:=hT
 refine G8 w hgd s x t ho base e i z size bytes ht hi hz hsize hby hzs hsz v n xs hs hown B A m c news hx hr (List.all_eq_true.1 h1') (by simp only[maxLen];omega) ?_ hbase
  (fun v' w' h2 h3 h4=>h v' w' h2 (Qz hown hbase h3 h4))
 have:(n+m)*bytes≤33554432*4096:=Nat.mul_le_mul (by omega) hb;omega
theorem wT {P:Program}{w:World}(hgd:o.guard=none)(ho:o.op= .call {callee:= .builtin .append,args:= #[s,x],argTypes:= #[t,t]})(hT:sH P t e size bytes)(hown:w.ownsRow base e size v n xs)(hs:a.eval s=v)(hx:a.eval x= .slice A m c)(hr:Reads w B size A m news)(h1':(news.all fun u=>u.oneCell')=true)(hn:n+m<33554432)(hbase:base≤w.heap.size)(h:∀v' w',w'.ownsRow base e size v' (n+m) (xs++news)→nA w base v w' v'→wpList P ops Q rest (a.put o.dst v') w'):wpList P ops Q (o::rest) a w:=by
 obtain⟨i,z,ht,hi,hz,hsize,hby,hzs,hsz,hb⟩:=hT
 refine EC w hgd s x t ho base e i z size bytes ht hi hz hsize hby hzs hsz v n xs hs hown B A m c news hx hr (List.all_eq_true.1 h1') (by simp only[maxLen];omega) ?_ hbase
  (fun v' w' h2 h3 h4=>h v' w' h2 (Qz hown hbase h3 h4))
 have:(n+m)*bytes≤33554432*4096:=Nat.mul_le_mul (by omega) hb;omega
theorem XZ {w:World}(h:w.ownsRow base e size (.slice A n c) n xs):(A=none∧n=0∧c=0)∨∃g,A=some ⟨g,0,none⟩∧n≤c∧base≤g∧g<w.heap.size:=by
 rcases h.2 with⟨hv,hx⟩|⟨g,cap,cur,hv,hg,hh,hcap,_⟩
 ·injection hv with h1 h2 h3
  exact .inl ⟨h1,h2,h3⟩
 ·injection hv with h1 h2 h3
  subst h3;exact .inr ⟨g,h1,hcap,hg,(Array.getElem?_eq_some_iff.1 hh).1⟩
theorem xD {P:Program}(hu:P.underlying t=some (.slice e))(hs:∀w,(sizeOf e).run P w= .ok size w){w:World}{j:Nat}(h:w.ownsRow base e size (.slice A n c) n xs)(hj:j≤n):
  ∃X,(∀W,(Instr.slice t (.slice A n c) (some (nI j)) none none).run P W= .ok (.slice X (n-j) (c-j)) W)∧Reads w w.heap.size size X (n-j) (xs.drop (j*size))∧
   (∀W,(Instr.slice t (.slice A n c) none (some (nI j)) none).run P W= .ok (.slice A j c) W)∧Reads w w.heap.size size A j (xs.take (j*size)):=by
 have hr:=Reads.fD h;have hx:=hr.1;rcases XZ h with⟨rfl,rfl,rfl⟩|⟨g,rfl,hc,_,_⟩
 ·obtain rfl:j=0:=by omega
  have hx0:xs=[]:=List.eq_nil_of_length_eq_zero (by simpa using hx);subst hx0;refine⟨none,fun W=> ?_,by simpa using Reads.none_,fun W=>MO hu hs none 0 0 0 (Nat.le_refl _) W,by simpa using Reads.none_⟩;simp[Instr.slice,run_underlying hu,go_sem,hs]
 ·refine⟨_,fun W=>R4 hu hs g 0 n c j hj W,⟨by rw[List.length_drop,hx,Nat.sub_mul],fun hn=> ?_⟩,fun W=>MO hu hs _ n c j (by omega) W,⟨by rw[List.length_take,hx];exact Nat.min_eq_left (Nat.mul_le_mul_right _ hj),fun hn=> ?_⟩⟩
  ·rw[if_neg (by omega)];obtain⟨b,off,he,hb,hcell⟩:=hr.2 (by omega)
   injection he with he
   injection he with h1 h2 _
   subst h1 h2;refine⟨_,_,rfl,hb,fun k u hk=> ?_⟩;rw[List.getElem?_drop]at hk;have:=hcell _ u hk;rw[Nat.add_assoc];exact this
  ·obtain⟨b,off,he,hb,hcell⟩:=hr.2 (by omega);refine⟨b,off,he,hb,fun k u hk=>hcell k u ?_⟩;rw[List.getElem?_take]at hk;split at hk
   ·exact hk
   ·cases hk
theorem MQ (w:World)(base:Nat)(e:TypeId)(size:Nat)(hb:base≤w.heap.size):(w.alloc (.cells #[] e)).ownsRow base e size (.slice (some ⟨w.heap.size,0,none⟩) 0 0) 0 []:=
 World.ownsRow_made w #[] 0 hb (by simp[maxLen]) (by simp)
theorem rF {w:World}{g:Nat}{cs:Array Value}(h:aj w g t cs)(hl:cs.size=m*size):Reads w w.heap.size size (some ⟨g,0,none⟩) m cs.toList:=
 ⟨by simpa using hl,fun _=>⟨g,0,rfl,h.lt,fun j u hu=>by
  rw[Nat.zero_add,h.cell]
  simpa using hu⟩⟩
end
end Go.Proofs.YtnfjjbpmhcbelaaGreatDoor
