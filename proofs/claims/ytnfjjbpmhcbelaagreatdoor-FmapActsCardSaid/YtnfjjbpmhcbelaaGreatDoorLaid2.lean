/- From what a row lists of the package-level variables ('laid') to what the walks ask; and the wrap that hands on both that and the world's shape. -/
import Derived.Test.YtnfjjbpmhcbelaaGreatDoorCoG
import Derived.Test.YtnfjjbpmhcbelaaGreatDoorRows
import Derived.ProofKit
import Derived.LaidMore
import Derived.Stop.LaidErr
import Derived.Lib.LaidTab
import Derived.HandedShaped
import Derived.Handed
namespace Go.Proofs.YtnfjjbpmhcbelaaGreatDoor
set_option maxRecDepth 100000
open Go.RowKit Go.ChangeShapes Go.WideShapes Go.ChangeAt
section
variable {s : ChangeSpec} {again apart fresh handsOn : Bool} {P : Program} {W : World}
section
variable {H : Type} {enc : TypeId × Value → H}
theorem Qv {a:Assume}{C:Checked}{os:Os}{f:FuncId}{fn:Func}{conds:List PathCond}{X:World→Array Value→Prop}(hX:∀(w w':World) (args:Array Value),w.heap=w'.heap→X w args→X w' args)(own:ownKnob C.prog.godebug=none)(started:os.Started)(noInit:C.prog.inits.idxOf? f=none)(hfn:C.prog.funcs[f]?=some fn)(witness:∃(w:World) (tape:Tape) (i:Input),w.os=os∧(w.forCall tape i).Shaped C.prog∧i.vars=[]∧Input.okWide C.prog (w.forCall tape i) .any w.heap.size f i∧
   ((s.pre enc C.prog fn conds apart (w.forCall tape i).memory i.args∧X (w.forCall tape i).memory i.args)∧sizedMet enc C.prog fn (OpenSpec.ofChange s) apart (w.forCall tape i).memory i.args)∧a.holds C.prog (lone (Frame.enter C.prog f i.args .normal) [] (w.forCall tape i))) (contract:∀(W:World) (base:Nat) (args:Array Value) (ds gs:List (DataW H)) (before:List MemPlace),
   (∀(j:Nat) t v,fn.params[j]?=some t→args[j]?=some v→Value.okWide C.prog W .any base t v)→
   DataW.Whole enc C.prog fn.params.toList s.vars apart W args.toList ds gs before→
   (DataW.weightsEach C.prog (fn.params.toList++s.plain.varTypes C.prog) (ds++gs)).all (·≤reachBytes)=true→X W args→W.ShapedOpen C.prog→
   Calls C.prog f args W fun e W'=>∃v,e= .returned v∧s.post enc C.prog fn apart fresh handsOn again W args v W'):
  ReturnsInHanded a C os f .any (fun w args=>(s.pre enc C.prog fn conds apart w args∧X w args)∧sizedMet enc C.prog fn (OpenSpec.ofChange s) apart w args) (s.post enc C.prog fn apart fresh handsOn again):=by
 refine returnsInHanded_of_calls own started noInit witness ?_;intro w tape i _ hsh _ hok hpre hholds;obtain⟨_,_,_,fn',hfn',_,_,_,_,hval⟩:=hok;have e:fn'=fn:=Option.some.inj (hfn'.symm.trans hfn);subst e;obtain⟨⟨⟨ds,gs,before,hw,hc⟩,hx⟩,hz⟩:=hpre;have hw':=DataW.Whole.of_heap (w':=w.forCall tape i) (by rfl) hw;refine(contract (w.forCall tape i) w.heap.size i.args ds gs before hval hw' (hz.weights hw) (hX _ _ _ (by rfl) hx) hsh).mono fun e W' ⟨v,he,hp⟩=> ?_;subst he;exact ChangeSpec.post_blind hp
theorem Ms {f:Func}{W':World}{args:Array Value}{v:Value}{ds gs:List (DataW H)}{before pa pv:List MemPlace}(hW:DataW.Whole enc P f.params.toList s.vars apart W args.toList ds gs before)(hres:∀(b:Nat) (sp:Nat→Bool) (hd:Bool),DataW.TrodAll enc P W' b sp hd f.resultTypes.toList (v.resultList f.resultTypes.size) (s.fn H (ds++gs)).results [])(hargs:∀sp:Nat→Bool,(∀p∈before,sp p.block=true)→DataW.TrodAll enc P W' 0 sp true f.params.toList args.toList (s.fn H (ds++gs)).args pa)(hvars:∀sp:Nat→Bool,(∀p∈before,sp p.block=true)→DataW.TrodVars enc P W' sp s.vars (s.fn H (ds++gs)).vars pv)(hps:before=pa++pv)(hb:Below W.heap.size W W')(hok:∀(j:Nat) (t:TypeId) (r:Value),f.resultTypes[j]?=some t→(v.resultList f.resultTypes.size)[j]?=some r→Value.okWide P W' .any 0 t r):
  s.post enc P f apart fresh handsOn again W args v W':=by
 have hlt:∀p∈before,p.block<W.heap.size:=fun p hp=>hW.lt p hp
 have hold:∀p∈before,(fun b=>decide (b<W.heap.size)) p.block=true:=fun p hp=>by simpa using hlt p hp
 refine⟨ds,gs,before,[],pa,pv,hW,hres _ _ _,hargs _ hold,hvars _ hold,World.keptBut_mono (fun p hp=>⟨hp, ?_⟩) (hb.frame (·∈before)),fun _=> ?_⟩
 ·rw[hps,List.mem_append]at hp;exact Or.inr hp
 ·obtain⟨_,_,_,_,_,hz,hn⟩:=hW;refine⟨hok,_,_,([]++pa)++pv,⟨[]++pa,pv,trodAll_append (hargs _ (fun _ _=>rfl)) (hres _ _ _),hvars _ (fun _ _=>rfl),rfl, ?_, ?_⟩, ?_⟩
  ·intro b off hp
   have hin:MemPlace.cell b off∈before:=by rw[hps];simpa using hp
   rw[hb.frozen (hlt _ hin)];exact hz b off hin
  ·intro ha;have:=hn ha;rw[hps]at this;simpa using this
  ·intro p hp _;rw[hps];simpa using hp
end
def adt (text:List UInt8):DataW Unit:= .iface "*errors.errorString" (.ptr (.agg [.lit (.string text)]))
theorem Jc:∀(l:List (String×DataW Unit)) (ps:List MemPlace),DataW.LaidVars P W l ps→
  ∃pl:List (List MemPlace),ps=pl.flatten∧pl.length=l.length∧∀(i:Nat) (n:String) (d:DataW Unit),l[i]?=some (n,d)→
   ∃g t cs fuel p,P.globalNamed n=some g∧(P.globals[g]?).map (·.type)=some t∧W.var? P n=some cs∧DataW.trod (fun _=>()) P W 0 (fun _=>true) false fuel t cs.toList=some (d,p)∧
    pl[i]?=some (MemPlace.row ⟨g,0,none⟩ cs.size++p)
 | [],ps,h=>⟨[],by simpa[DataW.LaidVars]using h,rfl,fun i n d hi=>by simp at hi⟩
 |(n,d)::r,ps,h=>by
  obtain⟨g,t,cs,fuel,p,q,h1,h2,h3,h4,h5,rfl⟩:=h;obtain⟨pl,e1,e2,e3⟩:=Jc r q h5;refine⟨(MemPlace.row ⟨g,0,none⟩ cs.size++p)::pl,by rw[List.flatten_cons,←e1],by simp[e2],fun i n' d' hi=> ?_⟩
  cases i with
  |zero=>
   simp only[List.getElem?_cons_zero,Option.some.injEq,Prod.mk.injEq]at hi;obtain⟨rfl,rfl⟩:=hi;exact⟨g,t,cs,fuel,p,h1,h2,h3,h4,rfl⟩
  |succ i=>exact e3 i n' d' (by simpa using hi)
theorem star: "*" ++ "errors.errorString" = "*errors.errorString" :=by decide
theorem PI (u:TypeId)(h:Tryz.prog.typeName? 3 u=some "*errors.errorString"):u=351 :=
 typeName_ptr_named (nm:= "errors.errorString") (by rw[star];kernel_rfl) (by kernel_rfl) (by decide) u (by rw[star];exact h)
theorem wH {α:Type}:∀(pl:List (List α)),pl.flatten.Nodup→∀(i j:Nat) (p q:List α) (x:α),i<j→pl[i]?=some p→pl[j]?=some q→x∈p→x∈q→False
 | [],_,i,j,p,q,x,_,h,_,_,_=>by simp at h
 |r::pl,hn,i,j,p,q,x,hij,hi,hj,hp,hq=>by
  rw[List.flatten_cons,List.nodup_append]at hn;obtain⟨j,rfl⟩:∃j',j=j'+1:=⟨j-1,by omega⟩;rw[List.getElem?_cons_succ]at hj
  cases i with
  |zero=>
   simp only[List.getElem?_cons_zero,Option.some.injEq]at hi;subst hi;exact hn.2.2 x hp x (List.mem_flatten.2 ⟨q,List.mem_of_getElem? hj,hq⟩) rfl
  |succ i=>
   rw[List.getElem?_cons_succ]at hi;exact wH pl hn.2.1 i j p q x (by omega) hi hj hp hq
theorem JY {l:List (String×DataW Unit)}(h:laidMet Tryz.prog l W)(p:Nat)(hpos:∀k,k<16→∃n text,l[p+k]?=some (n,adt text)∧Tryz.prog.globalNamed n=some (gE (k+1))∧(Tryz.prog.globals[gE (k+1)]?).map (·.type)=some 28):∃E,eY E W:=by
 obtain⟨ps,hv,hnd,hrows⟩:=h;obtain⟨pl,e1,e2,e3⟩:=Jc l ps hv
 have H:∀k,1≤k∧k≤16→∃(a:Addr),W.cell? ⟨gE k,0,none⟩=some (.iface 351 (.pointer (some a)))∧(∃c t,W.heap[a.block]?=some (.cells c t (0,0)))∧∃q,pl[p+(k-1)]?=some q∧MemPlace.cell a.block a.off∈q:=by
  rintro k ⟨hk1,hk2⟩;obtain⟨n,text,hl,hg,ht⟩:=hpos (k-1) (by omega);rw[show k-1+1=k by omega]at hg ht;obtain⟨g,t,cs,fuel,p',h1,h2,h3,h4,h5⟩:=e3 _ _ _ hl;obtain rfl:=Option.some.inj (hg.symm.trans h1);obtain rfl:=Option.some.inj (ht.symm.trans h2)
  have hmem:∀x∈MemPlace.row ⟨gE k,0,none⟩ cs.size++p',x∈ps:=by
   intro x hx;rw[e1];exact List.mem_flatten.2 ⟨_,List.mem_of_getElem? h5,hx⟩
  obtain⟨l0⟩:=cs
  have ok0:∀u v,l0=[.iface u v]→Value.okWide Tryz.prog W .any 0 u v:=fun u v e=>by
   subst e;exact(hrows (gE k) 0 (hmem _ (by simp[MemPlace.row]))).2 u v (by simpa using World.var?_cell hg h3 0)
  obtain⟨a0,s0,rfl,hc0,hs0,hz0,rfl⟩:=errorString_of_trod Tryz.underlying28 PI Tryz.underlying351 Tryz.underlying390 rfl rfl Tryz.underlying9 (by kernel_rfl) (by kernel_rfl) h4 ok0;refine⟨a0,by simpa using World.var?_cell hg h3 0,(hrows a0.block a0.off (hmem _ (by simp[MemPlace.row]))).1,_,h5, ?_⟩;simp[MemPlace.row]
 refine⟨fun k=>if h:1≤k∧k≤16 then Classical.choose (H k h)else default,⟨fun k h1 h2=> ?_,fun k h1 h2=> ?_,fun j k h1 h2 h3 h4 e=> ?_⟩⟩
 ·have hk:1≤k∧k≤16:=⟨h1,h2⟩;simp only[hk,and_self,dif_pos];exact(Classical.choose_spec (H k hk)).1
 ·have hk:1≤k∧k≤16:=⟨h1,h2⟩;simp only[hk,and_self,dif_pos];exact(Classical.choose_spec (H k hk)).2.1
 ·have hj:1≤j∧j≤16:=⟨h1,h2⟩;have hk:1≤k∧k≤16:=⟨h3,h4⟩;simp only[hk,hj,and_self,dif_pos]at e;obtain⟨q1,hq1,hx1⟩:=(Classical.choose_spec (H j hj)).2.2;obtain⟨q2,hq2,hx2⟩:=(Classical.choose_spec (H k hk)).2.2;rw[e]at hx1;rw[e1]at hnd;rcases Nat.lt_trichotomy (p+(j-1)) (p+(k-1))with hlt|heq|hgt
  ·exact(wH pl hnd _ _ _ _ _ hlt hq1 hq2 hx1 hx2).elim
  ·omega
  ·exact(wH pl hnd _ _ _ _ _ hgt hq2 hq1 hx2 hx1).elim
end
def afc (W:World)(k:Nat):Addr:=match W.cell? ⟨gE k,0,none⟩with
 |some (.iface _ (.pointer (some a)))=>a
 |_=>default
end Go.Proofs.YtnfjjbpmhcbelaaGreatDoor
