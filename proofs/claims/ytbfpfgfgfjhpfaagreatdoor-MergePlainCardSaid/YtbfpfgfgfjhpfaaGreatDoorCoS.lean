/- A region that draws its order, in a round of a range over a function: walked as anywhere. No statement of the claim. -/
import Derived.Test.YtbfpfgfgfjhpfaaGreatDoorHeldT
import Derived.Test.YtbfpfgfgfjhpfaaGreatDoorSq
import Derived.OrdersIn
import Derived.ControlIn
import Derived.RangeFuncCalls
import Derived.RangeFuncLeaves
import Derived.Test.YtbfpfgfgfjhpfaaGreatDoorCoR
import Derived.Test.YtbfpfgfgfjhpfaaGreatDoorCoG
import Derived.Test.YtbfpfgfgfjhpfaaGreatDoorPlA
import Derived.Test.YtbfpfgfgfjhpfaaGreatDoorCoB
import Derived.Test.YtbfpfgfgfjhpfaaGreatDoorCoA
namespace Go.Proofs.YtbfpfgfgfjhpfaaGreatDoor
set_option maxRecDepth 100000
set_option maxHeartbeats 2000000
open Go Go.RowKit Go.Shelf dP
variable {i l n : Nat} {a : Act} {w : World} {F : Fence} {c : Code}
section
variable {P : Program} {ops : Array Oper} {Q : Exit → Act → World → Prop} {md : Region.Mode} {S : World → Prop} {late : List Nat}
def EH (ops:Array Oper):Bool:=ops.all fun o=>match o.op with
 | .defer _=>false
 |_=>true
theorem NN (h:EH ops=true)(i:Nat)(o:Oper)(hi:ops[i]?=some o)(c:Call):o.op≠ .defer c:=fun he=>by
 obtain⟨hlt,rfl⟩:=Array.getElem?_eq_some_iff.1 hi;have:=Array.all_eq_true.1 h i hlt;rw[he]at this;cases this
theorem Vp {K K':Act→World→Prop}(hnd:EH ops=true)(hQ:¬LetsOut Q)(hK:∀a w,K a w→K' a w)(h:wpOp P ops Q i K a w):wpOpIn (Fence.wide.inRound l) n P ops Q i K' a w:=by
 unfold wpOp at h;unfold wpOpIn
 cases hi:ops[i]? with
 |none=>rw[hi]at h;exact hK _ _ h
 |some o=>
  rw[hi]at h;dsimp only at h⊢;split
  ·next hw=>
   rw[if_pos hw]at h;rcases h with h|⟨_,hl⟩
   ·refine⟨fun _ _=>trivial, ?_⟩;rw[Oper.semAt_eq _ _ _ (NN hnd i o hi)];unfold Oper.wp at h;generalize(execOp a.eval o).run P w=r at*
    cases r with
    |ok x w'=>
     cases x<;>simp only[Oper.upon,Oper.uponIn]at h⊢
     case value u=>exact hK _ _ h
     case skip=>exact hK _ _ h
     case defer d=>exact hK _ _ h
     case enter f args=>
      refine⟨fun hd=>by simp[Fence.wide]at hd,CallsIn.inRound l ((callsIn_wide.2 h).mono fun e w'' he=> ?_)⟩
      cases e with
      |returned u=>exact hK _ _ he
      |panicked c=>exact he
      |outgrown=>exact he
     case row row args=>
      refine⟨fun hd=>by simp[Fence.wide]at hd,fun c cs _=> ?_⟩;obtain⟨v,w1,h1,h2⟩:=h c cs;exact⟨v,w1,hK _ _ h1,stepsIn_wide.2 h2⟩
    |halt x w'=>cases x<;>simp only[Oper.upon,Oper.uponIn]at h⊢<;>exact h
   ·exact absurd hl hQ
  ·next hw=>
   rw[if_neg hw]at h;exact⟨fun _ _=>trivial,hK _ _ h⟩
theorem Ii (hnd:EH ops=true)(hQ:¬LetsOut Q):∀(f:Nat) (listed:Array Bool) (a:Act) (w:World),wpAny P md ops Q f listed a w→wpAnyIn (Fence.wide.inRound l) n P md ops Q f listed a w
 |0,_,_,_,h=>h
 |f+1,_,_,_,h=>⟨h.1,fun i hi=>Vp hnd hQ (fun a' w' h'=>Ii hnd hQ f _ a' w' h') (h.2 i hi)⟩
theorem Bw {id:Nat}(S:World→Prop)(late:List Nat)(hm:P.follows .mixedOrders=true)(hnd:EH ops=true)(hQ:¬LetsOut Q)(h:bH P .any ops Q S late ops.size (Array.replicate ops.size false) a {w with drawn:=w.drawn+1}):(Code.region id ops true).wpIn (Fence.wide.inRound l) n P Q a w:=
 wpIn_region_any hm (Ii hnd hQ _ _ _ _ (Bu _ _ _ _ h))
theorem pairT {j:Nat}{o o':Oper}{f:Nat}{listed:Array Bool}(hi:ops[i]?=some o)(hj:ops[j]?=some o')(hr:Region.ready md ops listed=[i,j])(h1:∀K:Act→World→Prop,RowKit.Hid (∀a' w',(i∉late→S w')→bH P md ops Q S late f (listed.setIfInBounds i true) a' w'→K a' w')→if Region.wanted o (yielded ops a.tmps)=true then o.wp P a w K Q else K (a.put o.dst undef) w)(h2:∀K:Act→World→Prop,RowKit.Hid (∀a' w',(j∉late→S w')→bH P md ops Q S late f (listed.setIfInBounds j true) a' w'→K a' w')→if Region.wanted o' (yielded ops a.tmps)=true then o'.wp P a w K Q else K (a.put o'.dst undef) w):bH P md ops Q S late (f+1) listed a w:=by
 have one:∀(k:Nat) (x:Oper),ops[k]?=some x→k∈Region.ready md ops listed→
   (∀K:Act→World→Prop,RowKit.Hid (∀a' w',(k∉late→S w')→bH P md ops Q S late f (listed.setIfInBounds k true) a' w'→K a' w')→if Region.wanted x (yielded ops a.tmps)=true then x.wp P a w K Q else K (a.put x.dst undef) w)→
   wpOp P ops Q k (fun a' w'=>(Early late (listed.setIfInBounds k true)→S w')∧bH P md ops Q S late f (listed.setIfInBounds k true) a' w') a w:=by
  intro k x hk hkr h;have hun:listed.getD k true=false:=(mem_ready.1 hkr).1;unfold wpOp;simp only[hk]
  have:=h (fun a' w'=>(Early late (listed.setIfInBounds k true)→S w')∧bH P md ops Q S late f (listed.setIfInBounds k true) a' w') (qd fun a' w' h1 h2=>⟨fun hE=>by
   by_cases hkn:k∈late
   ·have h3:=hE k hkn
    have hlt:k<listed.size:=by
     rcases Nat.lt_or_ge k listed.size with h'|h'
     ·exact h'
     ·simp[Array.getElem?_eq_none h']at hun
    simp[hlt]at h3
   ·exact h1 hkn,h2⟩)
  split
  ·next hw=>rw[if_pos hw]at this;exact .inl this
  ·next hw=>rw[if_neg hw]at this;exact this
 refine⟨(fun h0=>by rw[hr]at h0;cases h0),fun k hk=> ?_⟩;have hk':=hk;rw[hr]at hk;rcases List.mem_cons.1 hk with rfl|hk
 ·exact one _ o hi hk' h1
 ·obtain rfl:k=j:=by simpa using hk
  exact one _ o' hj hk' h2
def ach (R:Act→World→Prop)(Q:Exit→Act→World→Prop):Exit→Act→World→Prop
 | .normal,a,w=>R a w
 |e,a,w=>Q e a w
theorem aea (R:Act→World→Prop)(h:c.wpIn F n P (ach R Q) a w)(hR:∀a w,R a w→Q .normal a w):c.wpIn F n P Q a w:=
 wpIn_mono h fun e a w hq=>by cases e<;>first|exact hR _ _ hq|exact hq
def aaq (Q:Exit→Act→World→Prop):Exit→Act→World→Prop
 | .panic _,_,_=>False
 |e,a,w=>Q e a w
theorem lM {f:FuncId}{fn:Func}{args:Array Value}{R:Ending→World→Prop}(hf:P.funcs[f]?=some fn)(hb:fn.body=some c)(hF:F.fn f)(hro:F.round=none)(h:c.wpIn F n P (aaq (bodyPostM F n P fn R)) {tmps:=args++Array.replicate (fn.ntmps-args.size) undef,defers:=[]} w):CallsIn F n P f args w R:=
 callsIn_of_wp_marks hf hb hF (wpIn_mono h fun e _ _ hq=>by cases e<;>first|exact hq|exact hq.elim) hro
end
end Go.Proofs.YtbfpfgfgfjhpfaaGreatDoor

/-! A view's Find by its contract. -/
namespace Go.Proofs.YtbfpfgfgfjhpfaaGreatDoor
set_option maxRecDepth 100000
set_option maxHeartbeats 2000000
open Go Go.RowKit Go.Shelf dP
variable {l : List Nat} {es : List av} {h2 key : Nat}
attribute [local go_sem] Oper.semAt_some
def EI (l:List Nat)(es:List av)(key h2:Nat):Option Nat:=(dw 0 (l.map (lF h2))).find? fun i=>(es.getD i ⟨0,0,0⟩).key==key
theorem Tg {ys:List (Fin 8)}(hys:ys.map Fin.val=dw 0 ((l.map (lF h2)).map eZ))(hp:∀x∈ys,((es.getD x.val ⟨0,0,0⟩).key==key)=false):EI l es key h2=none:=by
 unfold EI;rw[vg (Gb h2 l)]at hys;rw[←hys,List.find?_eq_none];intro x hx;obtain⟨y,hy,rfl⟩:=List.mem_map.1 hx;rw[hp y hy];simp
theorem Ti {pre:List (Fin 8)}{x:Fin 8}{r:List Nat}(hys:(pre++[x]).map Fin.val++r=dw 0 ((l.map (lF h2)).map eZ))(hp:∀x∈pre,((es.getD x.val ⟨0,0,0⟩).key==key)=false)(hx:((es.getD x.val ⟨0,0,0⟩).key==key)=true):EI l es key h2=some x.val:=by
 unfold EI;rw[vg (Gb h2 l)]at hys
 rw[←hys,List.map_append,List.append_assoc,List.find?_append,List.find?_eq_none.2 (fun y hy=>by
  obtain⟨z,hz,rfl⟩:=List.mem_map.1 hy
  rw[hp z hz];simp)]
 show Option.or none (List.find? _ (x.val::r))=_;rw[List.find?_cons_of_pos (p:=fun i=>(es.getD i ⟨0,0,0⟩).key==key) hx];rfl
theorem xG {F:Fence}{n:Nat}{P:Program}{fn:Func}{R:Ending→World→Prop}{a:Act}{w:World}(h:LeavesInM F n P fn a.tmps R a.defers .returning w):aaq (bodyPostM F n P fn R) .ret a w:=h
theorem Vq (gb:Nat)(t:TypeId)(pre post:List Value)(go:Nat)(l:List Nat)(es:List av)(key hash:Nat)(h64:hash<18446744073709551616)(w:World)(h:cK w gb t pre post go l es)(hT:gZ w):
  Calls Tryz.prog 138 #[bC ⟨gb,go,none⟩,.int .u64 (key:Int),.int .u64 (hash:Int)] w fun e w'=>e= .returned (.int .i64 (uE (EI l es key (hash % 128))))∧Below w.heap.size w w':=by
 obtain⟨W,hW,hB,hV,hK,hR⟩:=qX3 w 195 #[.pointer (some ⟨gb,go,none⟩)] 35 #[.int .u64 (key:Int)] 3 #[.int .i64 0];have hG:=h.below hB;have H2:=qd (Nl hash h64);have tQ:=qd (SF l h.l8 h.bytes (hash % 128) (by omega));have HW:=qd hW;have HB:=qd hB;have hg:=World.block_lt_of_cell? w _ (hT 0 (by omega));have Kr:=h.l8;unfold bC;clear hW h hB;refine(callsIn_wide (n:=10)).1 ?_
 have h1:1≤10:=by omega
 refine lM Tryz.func138 rfl trivial rfl ?_;simp only[Tryz.ntmps138,List.size_toArray,List.length_cons,List.length_nil,Nat.reduceAdd,Nat.reduceSub,Array.replicate_succ,Array.replicate_zero,List.push_toArray,List.append_toArray,List.nil_append,List.cons_append];refine wpIn_wide.2 ?_;go_upto_region 1 with fail;rw[←HW.out];have v0:=hV.cell 0;simp only[List.getElem?_toArray,List.getElem?_cons_zero]at v0;have hw:=hG.word;refine rT (fun(w':World)=>w'.cell? ⟨w.heap.size,0,none⟩=some (.pointer (some ⟨gb,go,none⟩))∧w'.cell? ⟨gb,go,none⟩=some (.int .u64 ((w8 l:Nat):Int))) [] ?_;have hHeld:=(⟨v0,hw⟩:_∧_);refine vW 0 rfl ?_;refine vT 1 rfl ?_;refine vW 2 rfl ?_;refine vW 3 rfl ?_;refine vT 4 rfl ?_;refine vW 5 rfl ?_;refine nT 6 rfl fun K hK=> ?_;go_simp;refine(H2.out _).mono ?_;rintro e w1 ⟨rfl,rfl⟩;go_wp2_with fail;have hHeld:=(⟨v0,hw⟩:_∧_);refine kO hK ?_;clear hK K;refine nT 7 rfl fun K hK=> ?_;go_simp;refine(tQ.out _).mono ?_;rintro e w1 ⟨rfl,rfl⟩;go_wp2_with fail;have hHeld:=(⟨v0,hw⟩:_∧_);refine kO hK ?_;clear hK K;refine nT 8 rfl fun K hK=> ?_;go_simp;refine(Ih (l.map (lF (hash % 128))) _).mono ?_;rintro e w1 ⟨rfl,hw1⟩;have hb1:Below W.heap.size W w1:=hw1▸((Below.refl W.heap.size W).drew).alloc (Nat.le_refl _) _;have hL1:aj w1 W.heap.size 35 #[.int .u64 ((w8 (l.map (lF (hash % 128))):Nat):Int)]:=hw1▸aj.new W.drew _ _;clear hw1;go_wp2_with fail;replace v0:=aA hb1 v0;replace hw:=aA hb1 hw;have hHeld:=(⟨v0,hw⟩:_∧_)
 refine kO hK ?_;clear hK K;refine aY (by kernel_rfl) ?_ _;go_wp2_with fail;refine(wpIn_wide (n:=10)).1 ?_;have hB1:Below w.heap.size w w1:=bX hb1 HB.out;have hlt3:w.heap.size+1+1<W.heap.size:=hR.lt;have hT1:gZ w1:=fun i hi=>(hB1.cell (p:=⟨13,p8 i,none⟩) hg).trans (hT i hi);have hG1:=hG.below hb1;have hK1:=(hK.below hb1 hK.lt).cell 0;have tV:=hR.below hb1 hR.lt;have hbl:=hB1.size;simp only[List.getElem?_toArray,List.getElem?_cons_zero]at hK1
 refine wpIn_rangeFunc_ownH rfl h1 (gf:=216) (lb:= #[.pointer (some ⟨W.heap.size,0,none⟩)]) rfl trivial (enters_of Tryz.func216 (by kernel_rfl) rfl)
  (Fw (10-1) (by omega) W.heap.size w1.heap.size [] (l.map (lF (hash % 128))) (by simpa using Kr) (Gb _ l).bytes w1 (by omega) (by simp) (Nat.le_refl _) hL1.lt (hL1.cell 0) hT1) dW (xE (Nat.le_refl _)) (Below.refl _ _) (fun _=>rfl)
  (fun pre V=>(∀x∈pre,((es.getD x.val ⟨0,0,0⟩).key==key)=false)∧Below w1.heap.size w1 V)
  (fun c pre V=>(c= .ret∧∃pre' x,pre=pre'++[x]∧(∀y∈pre',((es.getD y.val ⟨0,0,0⟩).key==key)=false)∧((es.getD x.val ⟨0,0,0⟩).key==key)=true∧Boxed V (w.heap.size+1+1) 3 (.int .i64 (x.val:Int)))∧Below w.heap.size w V)
  (OwnFrom.and (fun _ _ _ _ hs _ _=>hs) (ownFrom_below (Nat.le_refl _) (Nat.le_refl _)))
  (fun c=>OwnFrom.and (fun _ X Y row hs hg hr=>by
   obtain⟨h0,pre',x,h2,h3,h4,h5⟩:=hs
   exact⟨h0,pre',x,h2,h3,h4,boxed_own (w.heap.size+1+1) 3 (fun(_:Unit)=>Value.int .i64 (x.val:Int)) () X Y row h5 hg (fun r e=>(hr r e).2)⟩) (ownFrom_below (Nat.le_refl _) (by omega)))
  ⟨by simp,Below.refl _ _⟩
  (fun x a' _=>a'={tmps:= #[.agg #[.pointer (some ⟨gb,go,none⟩)],.int .u64 (key:Int),.int .u64 (hash:Int),.pointer (some ⟨w.heap.size,0,none⟩),.pointer (some ⟨w.heap.size+1,0,none⟩),undef,.pointer (some ⟨w.heap.size+1+1,0,none⟩),.int .i64 (x.val:Int),.pointer (some ⟨w.heap.size,0,none⟩),.pointer (some ⟨gb,go,none⟩),.pointer (some ⟨gb,go,none⟩),.pointer (some ⟨gb,go,none⟩),.int .u64 ((w8 l:Nat):Int),.int .u64 (hash:Int),.int .u8 ((hash:Int) % 128),.int .u64 ((w8 (List.map (lF (hash % 128)) l):Nat):Int),.func (.func 216) #[] #[.pointer (some ⟨W.heap.size,0,none⟩)],.int .i64 (x.val:Int),undef,undef,undef,undef,undef,undef,undef,undef,undef,undef,undef],defers:=[]})
  (fun _ _ _ _ _ _ hs _ _=>hs) ?assign ?body ?done ?stop
 case assign=>
  rintro lp pre x V K hi hK
  gi_wp2
  exact hK _ _ (KeepsFrom.refl _ _) (aV.refl _ _ _) hi rfl
 case body=>
  rintro lp pre x a' V hl ⟨r,hr⟩ ⟨hp,hV1⟩ rfl hlt;have Kt:x.val<8:=x.isLt;have hv:=aA hV1 v0;have hk:=aA hV1 hK1;have s0:=(hG1.below hV1).at_ x.val 0 Kt (by omega);rw[Nat.add_zero]at s0;simp only[aG,List.getElem?_cons_zero]at s0
  have hxi:(x.val:Int)<8:=by omega
  have hx0:(0:Int)≤(x.val:Int):=by omega
  have nJ:=qd hp
  have HO:(((es.getD x.val ⟨0,0,0⟩).key:Int)==(key:Int))=((es.getD x.val ⟨0,0,0⟩).key==key):=by rw[Bool.eq_iff_iff,beq_iff_eq,beq_iff_eq];omega
  generalize hkx:(es.getD x.val ⟨0,0,0⟩).key=kx at*;have HKx:=qd hkx;clear hp hkx
  gi_wp2_with fail
  refine Bw (fun(w':World)=>w'.cell? ⟨w.heap.size,0,none⟩=some (.pointer (some ⟨gb,go,none⟩))∧w'.cell? ⟨w.heap.size+1,0,none⟩=some (.int .u64 (key:Int))∧w'.cell? ⟨gb,go+1+x.val*3,none⟩=some (.int .u64 (kx:Int))) [] (by kernel_rfl) (by kernel_rfl) (by rintro⟨_,_,h⟩;exact h) ?_
  try (change bH _ _ _ _ _ _ _ _ _ (World.drew _))
  have hHeld:=(⟨hv,hk,s0⟩:_∧_∧_);refine vW 0 rfl ?_;refine vT 1 rfl ?_;refine vW 2 rfl ?_;refine vW 3 rfl ?_;refine vW 4 rfl ?_;refine vW 5 rfl ?_;refine vW 6 rfl ?_;refine vT 7 rfl ?_;refine vT 8 rfl ?_;refine vW 9 rfl ?_;refine aY (by kernel_rfl) ?_ _
  cases hb:(kx==key)with
  |false=>
   rw[hb]at HO
   gi_wp2
   exact⟨(KeepsOthers.drew _).from _,aV.drew _ _ _,fun y hy=>(List.mem_append.1 hy).elim (nJ.out y) (fun e=>by simp at e;subst e;rw[HKx.out];exact hb),hV1.drew⟩
  |true=>
   rw[hb]at HO;have cR:=(tV.below hV1 tV.lt).cell 0;have fR:=(tV.below hV1 tV.lt).frozen 0;simp only[List.getElem?_toArray,List.getElem?_cons_zero]at cR
   gi_wp2
   have hBx:Boxed V (w.heap.size+1+1) 3 (.int .i64 0):=tV.below hV1 tV.lt;exact⟨((KeepsOthers.drew V).trans (KeepsOthers.setCell V.drew ⟨w.heap.size+1+1,0,none⟩ (.int .i64 (x.val:Int)))).from _,⟨rfl,pre,x,rfl,nJ.out,by rw[HKx.out];exact hb,(show Boxed V.drew (w.heap.size+1+1) 3 (.int .i64 0)from hBx).set _⟩,((hB1.trans (hV1.mono hB1.size)).drew).setCell (p:=⟨w.heap.size+1+1,0,none⟩) (by simp;omega) _⟩
 case done=>
  rintro D ys V hD hys ⟨hp,hV1⟩ rQ;have cR:=(tV.below hV1 tV.lt).cell 0;have fR:=(tV.below hV1 tV.lt).frozen 0;simp only[List.getElem?_toArray,List.getElem?_cons_zero]at cR;have hBx:Boxed V (w.heap.size+1+1) 3 (.int .i64 0):=tV.below hV1 tV.lt;go_wp2;have hK':=(KeepsOthers.setCell V ⟨w.heap.size+1+1,0,none⟩ (.int .i64 (-1))).same D _ rQ rfl;refine xG ⟨by simp,.inl ⟨_,_,rfl,run_takeDeferred hK', ?_⟩⟩;have hc5:=cell_kept (hBx.set (.int .i64 (-1))).cell (grownBy_putObj' _ D (.deferred none)) (fun r e=>by cases e;exact⟨_,hK',rfl⟩);refine⟨.int .i64 (-1), ?_,by rw[Tg hys hp];rfl,((hB1.trans (hV1.mono hB1.size)).setCell (p:=⟨w.heap.size+1+1,0,none⟩) (by simp;omega) _).trans (belowK_b (w:=w) (Nat.le_refl _) _ D _ _ (by omega) hK' rfl rfl)⟩;simp[results,Tryz.f138,go_sem,hc5]
 case stop=>
  rintro D c pre V hD ⟨r,hr⟩ ⟨⟨rfl,pre',x,he,hp,hx,bR1⟩,hV1⟩ rQ
  gi_wp2
  refine xG ⟨by simp,.inl ⟨_,_,rfl,run_takeDeferred rQ, ?_⟩⟩;have hc5:=cell_kept bR1.cell (grownBy_putObj' _ D (.deferred none)) (fun r e=>by cases e;exact⟨_,rQ,rfl⟩);refine⟨.int .i64 (x.val:Int), ?_,by rw[Ti (by rw[he]at hr;exact hr) hp hx];rfl,hV1.trans (belowK_b (w:=w) (Nat.le_refl _) V D _ _ (by omega) rQ rfl rfl)⟩;simp[results,Tryz.f138,go_sem,hc5]
end Go.Proofs.YtbfpfgfgfjhpfaaGreatDoor

/-! A view's Entries by its contract. -/
namespace Go.Proofs.YtbfpfgfgfjhpfaaGreatDoor
set_option maxRecDepth 100000
set_option maxHeartbeats 2000000
open Go Go.RowKit Go.Shelf dP
attribute [local go_sem] Oper.semAt_some
theorem ru {w:World}{b b' e size n:Nat}{v:Value}{xs:List Value}(h:w.ownsRow b e size v n xs)(hb:b'≤b):w.ownsRow b' e size v n xs:=
 ⟨h.1,h.2.imp id fun⟨g,cap,cur,h1,h2,h3⟩=>⟨g,cap,cur,h1,Nat.le_trans hb h2,h3⟩⟩
theorem Yw:(Tryz.prog.info? 76).map (fun i=>(i.zero,i.size,i.bytes))=some (some (.agg #[.int .u64 0,.int .u64 0,.int .u64 0]),3,24):=by kernel_rfl
theorem Cv {B base n:Nat}{V V2 w4:World}{e:TypeId}{size:Nat}{v v4:Value}{xs:List Value}(_:B≤V.heap.size)(hb:Below V.heap.size V V2)(ho:V2.ownsRow base e size v n xs)(hg:oP V2 base v w4 v4):KeepsFrom B V w4:=by
 have h1:KeepsOthers V V2:=⟨hb.size,fun k o hk _=>(hb.block k (Array.getElem?_eq_some_iff.1 hk).1).trans hk⟩
 have h2:KeepsOthers V2 w4:=KeepsOthers.of_grownBy hg.nG (fun j o hj ho'=>by
  rcases ho.2 with⟨rfl,_⟩|⟨g,cap,cur,rfl,_,hh,_⟩
  ·simp[Value.ownBlock]at hj
  ·have:g=j:=by simpa[Value.ownBlock]using hj
   subst this;rw[hh]at ho'
   cases ho';rfl)
 exact(h1.trans h2).from B
theorem NP:vX Tryz.prog 70 76 3 24:=Ga Tryz.underlying70 Yw rfl (by decide) (by decide)
def uQ (l:List Nat)(es:List av):List av:=(dw 0 (qP l)).map fun i=>es.getD i ⟨0,0,0⟩
def atR (es:List av)(pre:List (Fin 8)):List av:=pre.map fun x=>es.getD x.val ⟨0,0,0⟩
theorem Ij (l:List Nat):Marks (qP l):=rH _
theorem Qo (l:List Nat):(qP l).length=l.length:=by simp[qP,C8]
theorem NQ {l:List Nat}{es:List av}{ys:List (Fin 8)}(hys:ys.map Fin.val=dw 0 ((qP l).map eZ)):atR es ys=uQ l es:=by
 rw[vg (Ij l)]at hys;unfold uQ atR;rw[←hys,List.map_map];rfl
theorem Yx (es:List av)(pre:List (Fin 8))(x:Fin 8):(atR es (pre++[x])).flatMap aG=(atR es pre).flatMap aG++aG (es.getD x.val ⟨0,0,0⟩):=by simp[atR]
theorem NR (gb:Nat)(t:TypeId)(ahead post:List Value)(go:Nat)(l:List Nat)(es:List av)(w:World)(h:cK w gb t ahead post go l es)(hT:gZ w):
  Calls Tryz.prog 210 #[bC ⟨gb,go,none⟩] w fun e w'=>∃A c,e= .returned (.slice A (uQ l es).length c)∧w'.ownsRow w.heap.size 76 3 (.slice A (uQ l es).length c) (uQ l es).length ((uQ l es).flatMap aG)∧Below w.heap.size w w':=by
 obtain⟨W,hW,hB,hV,hO⟩:=oJ w 195 #[.pointer (some ⟨gb,go,none⟩)] 70 #[.slice none 0 0];have hG:=h.below hB;have HF:=qd (SI l h.l8 h.bytes);have HW:=qd hW;have HB:=qd hB;have hg:=World.block_lt_of_cell? w _ (hT 0 (by omega));have Kr:=h.l8;unfold bC;clear hW hB;refine(callsIn_wide (n:=10)).1 ?_
 have h1:1≤10:=by omega
 refine lM Tryz.func210 rfl trivial rfl ?_;simp only[Tryz.ntmps210,List.size_toArray,List.length_cons,List.length_nil,Nat.reduceAdd,Nat.reduceSub,Array.replicate_succ,Array.replicate_zero,List.push_toArray,List.append_toArray,List.nil_append,List.cons_append];refine wpIn_wide.2 ?_;go_upto_region 2 with fail;rw[←HW.out];have v0:=hV.cell 0;simp only[List.getElem?_toArray,List.getElem?_cons_zero]at v0;have hw:=hG.word;go_wp2_with fail;refine(HF.out _).mono ?_;rintro e w1 ⟨rfl,rfl⟩;go_wp2_with fail;refine(Ih (qP l) _).mono ?_;rintro e w1 ⟨rfl,hw1⟩;have hb1:Below W.heap.size W w1:=hw1▸(Below.refl W.heap.size W).alloc (Nat.le_refl _) _;have hL1:aj w1 W.heap.size 35 #[.int .u64 ((w8 (qP l):Nat):Int)]:=hw1▸aj.new W _ _;clear hw1;replace v0:=aA hb1 v0;replace hw:=aA hb1 hw;go_wp2_with fail;refine(wpIn_wide (n:=10)).1 ?_;have hB1:Below w.heap.size w w1:=bX hb1 HB.out;have hlt3:w.heap.size+1<W.heap.size:=hO.lt;have hgl:gb<w.heap.size:=h.lt;have hT1:gZ w1:=fun i hi=>(hB1.cell (p:=⟨13,p8 i,none⟩) hg).trans (hT i hi);have hG1:=hG.below hb1;have yX:Boxed w1 (w.heap.size+1) 70 (.slice none 0 0):=hO.below hb1 hO.lt;have hbl:=hB1.size;have hbs:=hb1.size;clear h
 refine wpIn_rangeFunc_ownH rfl h1 (gf:=216) (lb:= #[.pointer (some ⟨W.heap.size,0,none⟩)]) rfl trivial (enters_of Tryz.func216 (by kernel_rfl) rfl)
  (Fw (10-1) (by omega) W.heap.size w1.heap.size [w.heap.size+1] (qP l) (by rw[Qo];exact Kr) (Ij l).bytes w1 (by omega) (by simp;omega) (Nat.le_refl _) hL1.lt (hL1.cell 0) hT1) dW (xE (Nat.le_refl _)) (Below.refl _ _) (fun _=>rfl)
  (fun pre V=>(∃v,Boxed V (w.heap.size+1) 70 v∧V.ownsRow w1.heap.size 76 3 v pre.length ((atR es pre).flatMap aG)∧True)∧aV w1.heap.size [w.heap.size+1] w1 V)
  (fun _ _ _=>False)
  (OwnFrom.and (Own.from (holdsRow_own w1.heap.size (w.heap.size+1) 70 76 3 List.length (fun pre=>(atR es pre).flatMap aG) (fun _ _=>True)) _) (qQ (Nat.le_refl _) (Nat.le_refl _)))
  (fun _ _ _ _ _ hs _ _=>hs)
  ⟨⟨_,yX,⟨by simp[atR],.inl ⟨rfl,rfl⟩⟩,trivial⟩,aV.refl _ _ _⟩
  (fun x a' _=>a'={tmps:= #[.agg #[.pointer (some ⟨gb,go,none⟩)],.pointer (some ⟨w.heap.size,0,none⟩),.slice none 0 0,.pointer (some ⟨w.heap.size+1,0,none⟩),.int .i64 (x.val:Int),.pointer (some ⟨w.heap.size,0,none⟩),.pointer (some ⟨gb,go,none⟩),.pointer (some ⟨gb,go,none⟩),.pointer (some ⟨gb,go,none⟩),.int .u64 ((w8 l:Nat):Int),.int .u64 ((w8 (qP l):Nat):Int),.func (.func 216) #[] #[.pointer (some ⟨W.heap.size,0,none⟩)],.int .i64 (x.val:Int),undef,undef,undef,undef,undef,undef,undef,undef,undef,undef,undef],defers:=[]})
  (fun _ _ _ _ _ _ hs _ _=>hs) ?assign ?body ?done ?stop
 case assign=>
  rintro lp pre x V K hi hK
  gi_wp2
  exact hK _ _ (KeepsFrom.refl _ _) (aV.refl _ _ _) hi rfl
 case body=>
  rintro lp pre x a' V hl ⟨r,hr⟩ ⟨⟨v,wG,hO,-⟩,oZ⟩ rfl hlt;have Kt:x.val<8:=x.isLt;have aeb:gb<w1.heap.size:=hG1.lt
  have hgn:gb∉[w.heap.size+1]:=by simp;omega
  have hv:=(oZ.cell (p:=⟨w.heap.size,0,none⟩) (by show w.heap.size<_;omega) (by simp)).trans v0;have hGV:cK V gb t ahead post go l es:=⟨hG1.len,hG1.l8,hG1.bytes,hG1.e8,oZ.blk hG1.blk aeb hgn⟩;obtain⟨A,c,rfl⟩:=aU hO;have ho:=wG.cell;have s0:=hGV.at_ x.val 0 Kt (by omega);have s1:=hGV.at_ x.val 1 Kt (by omega);have s2:=hGV.at_ x.val 2 Kt (by omega);rw[Nat.add_zero]at s0
  have hxi:(x.val:Int)<8:=by omega
  have hx0:(0:Int)≤(x.val:Int):=by omega
  have eG:=qd (Yx es pre x);have Dl:=oZ.size;clear hGV;generalize es.getD x.val ⟨0,0,0⟩=x1 at*;simp only[aG,List.getElem?_cons_zero,List.getElem?_cons_succ]at s0 s1 s2
  gi_wp2_with fail
  refine Bw (fun(w':World)=>w'.cell? ⟨w.heap.size,0,none⟩=some (.pointer (some ⟨gb,go,none⟩))∧w'.cell? ⟨w.heap.size+1,0,none⟩=some (.slice A pre.length c)∧w'.cell? ⟨gb,go+1+x.val*3,none⟩=some (.int .u64 (x1.key:Int))∧w'.cell? ⟨gb,go+1+x.val*3+1,none⟩=some (.int .u64 (x1.val:Int))∧w'.cell? ⟨gb,go+1+x.val*3+2,none⟩=some (.int .u64 (x1.hash:Int))) [9,10] (by kernel_rfl) (by kernel_rfl) (by rintro⟨_,_,h⟩;exact h) ?_
  try (change bH _ _ _ _ _ _ _ _ _ (World.drew _))
  have hHeld:=(⟨hv,ho,s0,s1,s2⟩:_∧_∧_∧_∧_);refine vT 0 rfl ?_;refine vW 1 rfl ?_;refine vW 3 rfl ?_;refine nT 2 rfl fun K hK=> ?_;go_simp;refine kO hK ?_;clear hK K;refine vW 4 rfl ?_;refine vW 5 rfl ?_;refine vW 6 rfl ?_;refine vT 7 rfl ?_;refine nT 8 rfl fun K hK=> ?_;go_simp;have hb2:Below V.heap.size V (V.alloc (.cells #[.int .u64 (x1.key:Int),.int .u64 (x1.val:Int),.int .u64 (x1.hash:Int)] 76)).drew:=((Below.refl V.heap.size V).alloc (Nat.le_refl _) _).drew;obtain⟨V2,hV2⟩:∃V2,V2=(V.alloc (.cells #[.int .u64 (x1.key:Int),.int .u64 (x1.val:Int),.int .u64 (x1.hash:Int)] 76)).drew:=⟨_,rfl⟩;have hN2:aj V2 V.heap.size 76 #[.int .u64 (x1.key:Int),.int .u64 (x1.val:Int),.int .u64 (x1.hash:Int)]:=hV2▸(aj.new V _ _).drew;have hO2:V2.ownsRow w1.heap.size 76 3 (.slice A pre.length c) pre.length ((atR es pre).flatMap aG):=own_below hO (hV2▸hb2) (Nat.le_refl _);rw[←hV2]at hb2⊢;clear hV2;have hHeld:=(⟨aA hb2 hv,aA hb2 ho,aA hb2 s0,aA hb2 s1,aA hb2 s2⟩:_∧_∧_∧_∧_);refine kO hK ?_;clear hK K;refine nT 9 rfl fun K hK=> ?_;refine dN (by rfl) (by rfl) NP hO2 (by rfl) (by rfl) (rO (size:=3) (m:=1) hN2 (by rfl)) (by rfl) (by omega) (by have:=hb2.size;have:=Dl;omega) ?_;intro v4 w4 dM iI;obtain⟨A4,c4,rfl⟩:=aU dM;have hox:Boxed w4 (w.heap.size+1) 70 (.slice A pre.length c):=(iI.below.block _ (by omega)).trans ((hb2.block _ wG.lt).trans wG);have o4:=hox.cell;have f4:=hox.frozen
  have hK4:aV w1.heap.size [w.heap.size+1] w1 w4:=dW oZ (dW ((Mod.of_below hb2 _).wP Dl) (aV.of_below iI.below));have Dm:KeepsFrom w1.heap.size V w4:=Cv Dl hb2 hO2 iI;refine kO hK ?_;clear hK K;refine nT 10 rfl fun K hK=> ?_;go_simp;refine kO hK ?_;clear hK K;refine aY (by kernel_rfl) ?_ _;have hfin:Boxed (w4.setCell ⟨w.heap.size+1,0,none⟩ (.slice A4 (pre.length+1) c4)) (w.heap.size+1) 70 (.slice A4 (pre.length+1) c4):=hox.set _
  have Yy:(Value.slice A4 (pre.length+1) c4).ownBlock≠some (w.heap.size+1):=fun he=>by
   have:=(dM.lt _ he).1;omega
  have hown5:=dM.kept (grownBy_setCell' w4 (w.heap.size+1) (.slice A4 (pre.length+1) c4)) (.inr Yy);have vZ:=Dm.trans ((KeepsOthers.setCell w4 ⟨w.heap.size+1,0,none⟩ (.slice A4 (pre.length+1) c4)).from _);have yY:aV w1.heap.size [w.heap.size+1] w1 (w4.setCell ⟨w.heap.size+1,0,none⟩ (.slice A4 (pre.length+1) c4)):=hK4.ak (.inl (by simp)) _ _;have Vr:aV w1.heap.size [w.heap.size+1] V (w4.setCell ⟨w.heap.size+1,0,none⟩ (.slice A4 (pre.length+1) c4)):=(dW ((Mod.of_below hb2 _).wP Dl) (aV.of_below iI.below)).ak (.inl (by simp)) _ _;have HE:=qd (And.intro vZ (And.intro Vr (And.intro (And.intro hfin hown5) yY)));clear vZ Vr hfin hown5 yY Dm hK4 dM iI hox
  gi_wp2
  exact⟨HE.out.1,HE.out.2.1,⟨_,HE.out.2.2.1.1,by rw[eG.out,List.length_append];exact HE.out.2.2.1.2⟩,HE.out.2.2.2⟩
 case done=>
  rintro D ys V hD hys ⟨⟨v,wG,hO,-⟩,oZ⟩ rQ;obtain⟨A,c,rfl⟩:=aU hO;have ho:=wG.cell
  have hlen:ys.length=(uQ l es).length:=by rw[←NQ hys];simp[atR]
  rw[NQ hys,hlen]at hO;rw[hlen]at wG ho;have Rc:=(Mod.of_below hB1 [w.heap.size+1]).then oZ.mod;have gW:=qd hO;clear hO;go_wp2;refine xG ⟨by simp,.inl ⟨_,_,rfl,run_takeDeferred rQ, ?_⟩⟩;refine⟨.slice A (uQ l es).length c, ?_,A,c,rfl, ?_, ?_⟩
  ·simp[results,Tryz.f210,go_sem]
  ·exact ru (ownsRow_putObj gW.out _ rQ rfl) (by omega)
  ·exact(Rc.below (by simp) (Nat.le_refl _)).trans (belowK_b (w:=w) (Nat.le_refl _) V D _ _ (by omega) rQ rfl rfl)
 case stop=>
  rintro D c pre V hD hS hI;exact hI.elim
end Go.Proofs.YtbfpfgfgfjhpfaaGreatDoor

/-! A group as slots and as bytes: what the lanes tell of the slots. No program in sight. -/
namespace Go.Proofs.YtbfpfgfgfjhpfaaGreatDoor.dP
set_option maxRecDepth 100000
set_option maxHeartbeats 2000000
open Go Go.RowKit Go.Shelf dP
def Slot.ent:Slot→av
 | .full e=>e
 |_=>⟨0,0,0⟩
theorem Rf (h b:Nat):lF h b=128↔b=h:=by unfold lF;split<;>simp_all
theorem Yz (x:Slot)(h:Nat)(hh:h<128):x.byte=h↔∃e,x= .full e∧e.hash % 128=h:=by
 cases x with
 |empty=>simp[Slot.byte];omega
 |qp=>simp[Slot.byte];omega
 |full e=>simp[Slot.byte]
theorem Ik (key hash:Nat)(f:Nat→av):∀(G:kW) (s:Nat),(∀k x,G[k]?=some x→f (s+k)=x.ent)→
  (dw s (G.map fun x=>lF (hash % 128) x.byte)).find? (fun i=>(f i).key==key)=(iA G key hash).map (s+·)
 | [],_,_=>rfl
 |x::G,s,hf=>by
  have ih:=Ik key hash f G (s+1) (fun k y hy=>by have:=hf (k+1) y (by simpa using hy);rwa [show s+(k+1)=s+1+k by omega]at this);have h0:f s=x.ent:=hf 0 x rfl
  have hm:(iA G key hash).map (s+1+·)=((iA G key hash).map (·+1)).map (s+·):=by
   cases iA G key hash with
   |none=>rfl
   |some k=>simp;omega
  rw[List.map_cons,dw];unfold iA at ih hm⊢;rw[List.findIdx?_cons];by_cases hx:x.byte=hash % 128
  ·obtain⟨e,rfl,he⟩:=(Yz x _ (by omega)).1 hx;rw[if_pos ((Rf _ _).2 hx),List.find?_cons,h0];by_cases hk:e.key=key
   ·have:Slot.isKey key hash (.full e)=true:=by simp[Slot.isKey,he,hk]
    rw[this];simp[Slot.ent,hk]
   ·have:Slot.isKey key hash (.full e)=false:=by simp[Slot.isKey,hk]
    rw[this]
    have h1:((Slot.ent (.full e)).key==key)=false:=by simpa[Slot.ent]using hk
    rw[h1];simp only[Bool.false_eq_true,if_false];rw[ih,hm]
  ·have:Slot.isKey key hash x=false:=by
    cases x with
    |empty=>rfl
    |qp=>rfl
    |full e=>simp[Slot.byte]at hx;simp[Slot.isKey,hx]
   rw[if_neg (fun h=>hx ((Rf _ _).1 h)),this,ih,hm];simp
theorem Vs (x:Slot):eZ x.byte=128↔x.isFull=false:=by
 cases x with
 |empty=>simp[Slot.byte,eZ,Slot.isFull]
 |qp=>simp[Slot.byte,eZ,Slot.isFull]
 |full e=>
  have:=Nat.mod_lt e.hash (show 0<128 by omega)
  have h1:eZ (e.hash % 128)=0:=by unfold eZ;rw[if_pos this]
  show eZ (e.hash % 128)=128↔_;rw[h1];simp[Slot.isFull]
theorem Tj (G:kW):firstM ((G.map Slot.byte).map eZ)=lG G:=by
 unfold firstM lG;rw[List.map_map,List.findIdx?_map];congr 1;funext x;rw[Bool.eq_iff_iff];simp[Vs]
theorem Gn (G:kW):(G.map Slot.byte).any (·==128)=dQ G:=by
 unfold dQ;rw[List.any_map];congr 1;funext x
 cases x with
 |empty=>rfl
 |qp=>rfl
 |full e=>simp[Slot.byte,Slot.isEmpty];omega
theorem Il (f:Nat→av):∀(G:kW) (s:Nat),(∀k x,G[k]?=some x→f (s+k)=x.ent)→(dw s (G.map fun x=>eZ (255-x.byte))).map f=bR G
 | [],_,_=>rfl
 |x::G,s,hf=>by
  have ih:=Il f G (s+1) (fun k y hy=>by have:=hf (k+1) y (by simpa using hy);rwa [show s+(k+1)=s+1+k by omega]at this);have h0:f s=x.ent:=hf 0 x rfl
  have hg:bR (x::G)=x.ents++bR G:=by simp[bR]
  rw[List.map_cons,dw,hg]
  cases x with
  |empty=>rw[if_neg (by simp[Slot.byte,eZ]),ih];rfl
  |qp=>rw[if_neg (by simp[Slot.byte,eZ]),ih];rfl
  |full e=>
   have h1:eZ (255-e.hash % 128)=128:=by unfold eZ;rw[if_neg (by omega)]
   rw[if_pos (show eZ (255-(Slot.full e).byte)=128 from h1),List.map_cons,ih,h0];rfl
theorem yZ (G:kW)(i:Nat)(x:Slot):(G.set i x).map Slot.byte=(G.map Slot.byte).set i x.byte:=List.map_set
theorem qR (G:kW)(i:Nat)(x:Slot):(G.set i x).map Slot.ent=(G.map Slot.ent).set i x.ent:=List.map_set
theorem Bz (G:kW)(i:Nat):(G.map Slot.ent).getD i ⟨0,0,0⟩=(G.getD i .empty).ent:=by
 rw[List.getD_eq_getElem?_getD,List.getD_eq_getElem?_getD,List.getElem?_map]
 cases G[i]?<;>rfl
theorem Ku (G:kW)(i:Nat)(hi:i<G.length):(G.map Slot.byte).getD i 0=(G.getD i .empty).byte:=by
 rw[List.getD_eq_getElem?_getD,List.getD_eq_getElem?_getD,List.getElem?_map,List.getElem?_eq_getElem hi];rfl
theorem Vt (x:Slot):x.byte<128↔x.isFull=true:=by
 cases x with
 |empty=>simp[Slot.byte,Slot.isFull]
 |qp=>simp[Slot.byte,Slot.isFull]
 |full e=>simp[Slot.byte,Slot.isFull];omega
theorem Vu (x:Slot)(h:x.isFull=false):(x.byte==254)=x.iY:=by
 cases x with
 |empty=>rfl
 |qp=>rfl
 |full e=>cases h
end Go.Proofs.YtbfpfgfgfjhpfaaGreatDoor.dP

/-! A group of slots in memory: its view's functions, told of slots. -/
namespace Go.Proofs.YtbfpfgfgfjhpfaaGreatDoor
set_option maxRecDepth 100000
set_option maxHeartbeats 2000000
open Go Go.RowKit Go.Shelf dP
def mX (w:World)(gb:Nat)(t:TypeId)(pre post:List Value)(go:Nat)(G:kW):Prop:=cK w gb t pre post go (G.map Slot.byte) (G.map Slot.ent)
section
variable {w w' : World} {gb go : Nat} {t : TypeId} {pre post : List Value} {G : kW}
theorem mX.len8 (h:mX w gb t pre post go G):G.length=8:=by have:=h.l8;simpa using this
theorem mX.lt (h:mX w gb t pre post go G):gb<w.heap.size:=h.blk.lt
theorem mX.mod {S:List Nat}(h:mX w gb t pre post go G)(hm:Mod S w w')(hg:gb∉S):mX w' gb t pre post go G:=cK.mod h hm hg
instance {w w':World}{gb:Nat}{t:TypeId}{pre post:List Value}{go:Nat}{G:kW}:Md (mX w gb t pre post go G) w w' (mX w' gb t pre post go G) (fun S=>gb∉S):=⟨fun h hm hs=>mX.mod h hm hs⟩
theorem mX.below (h:mX w gb t pre post go G)(hb:Below w.heap.size w w'):mX w' gb t pre post go G:=cK.below h hb
theorem mX.keep {n₀:Nat}{S:List Nat}(h:mX w gb t pre post go G)(hm:aV n₀ S w w')(hn:gb<n₀)(hg:gb∉S):mX w' gb t pre post go G:=⟨h.len,h.l8,h.bytes,h.e8,hm.blk h.blk hn hg⟩
end
section
variable (gb : Nat) (t : TypeId) (pre post : List Value) (go : Nat) (G : kW) (w : World) (h : mX w gb t pre post go G)
include h
theorem Ai (i:Nat)(hi:i<8):(G.map Slot.byte).getD i 0<128↔(G.getD i .empty).isFull=true:=by
 rw[Ku G i (by rw[h.len8];exact hi),Vt]
theorem YA (key hash:Nat)(h64:hash<18446744073709551616)(hT:gZ w):
  Calls Tryz.prog 138 #[bC ⟨gb,go,none⟩,.int .u64 (key:Int),.int .u64 (hash:Int)] w fun e w'=>e= .returned (.int .i64 (uE (iA G key hash)))∧Below w.heap.size w w':=by
 have:=Vq gb t pre post go _ _ key hash h64 w h hT;unfold EI at this;rw[List.map_map]at this
 have he:=Ik key hash (fun i=>(G.map Slot.ent).getD i ⟨0,0,0⟩) G 0 (fun k x hk=>by
  rw[Nat.zero_add,Bz,List.getD_eq_getElem?_getD,hk];rfl)
 have hm:(iA G key hash).map (0+·)=iA G key hash:=by cases iA G key hash<;>simp
 rw[hm]at he;rw[show(dw 0 (List.map (lF (hash % 128)∘Slot.byte) G))=dw 0 (G.map fun x=>lF (hash % 128) x.byte)from rfl,he]at this;exact this
theorem YB (hT:gZ w):Calls Tryz.prog 137 #[bC ⟨gb,go,none⟩] w fun e w'=>e= .returned (.int .i64 (uE (lG G)))∧Below w.heap.size w w':=by
 have:=Vj gb t pre post go _ _ w h hT
 rwa [Tj]at this
theorem YC:Calls Tryz.prog 139 #[bC ⟨gb,go,none⟩] w fun e w'=>e= .returned (.bool (dQ G))∧Below w.heap.size w w':=by
 have:=Dh gb t pre post go _ _ w h
 rwa [Gn]at this
theorem Fx (i:Nat)(hi:i<8)(e:av)(he:G.getD i .empty= .full e):
  Calls Tryz.prog 140 #[bC ⟨gb,go,none⟩,.int .i64 (i:Int)] w fun x w'=>x= .returned (.tuple #[aR e,.bool true])∧Below w.heap.size w w':=by
 have:=NG gb t pre post go _ _ i hi w h ((Ai gb t pre post go G w h i hi).2 (by rw[he];rfl))
 rwa [Bz,he]at this
theorem Kv (i:Nat)(hi:i<8)(he:(G.getD i .empty).isFull=false)(E:Nat→Addr)(hE:gN E w 5):
  Calls Tryz.prog 140 #[bC ⟨gb,go,none⟩,.int .i64 (i:Int)] w fun x w'=>x= .returned (.tuple #[aR ⟨0,0,0⟩,.bool false])∧Below w.heap.size w w':=
 Ta gb t pre post go _ _ i hi w h (fun hl=>by rw[(Ai gb t pre post go G w h i hi).1 hl]at he;cases he) E hE
theorem abh (i:Nat)(hi:i<8)(e:av)(h64:e.hash<18446744073709551616)(he:(G.getD i .empty).isFull=false):
  Calls Tryz.prog 143 #[bC ⟨gb,go,none⟩,.int .i64 (i:Int),aR e] w fun x w'=>x= .returned (.tuple #[.bool (G.getD i .empty).iY,.nilIface])∧mX w' gb t pre post go (G.set i (.full e))∧Mod [gb] w w':=by
 have:=Yp gb t pre post go _ _ i hi e h64 w h (fun hl=>by rw[(Ai gb t pre post go G w h i hi).1 hl]at he;cases he);rw[Ku G i (by rw[h.len8];exact hi),Vu _ he]at this;refine this.mono fun x w' ⟨h1,h2,h3⟩=>⟨h1, ?_,h3⟩;unfold mX;rw[yZ,qR];exact h2
theorem abj (i:Nat)(hi:i<8)(v:Nat)(e:av)(he:G.getD i .empty= .full e):
  Calls Tryz.prog 141 #[bC ⟨gb,go,none⟩,.int .i64 (i:Int),.int .u64 (v:Int)] w fun x w'=>x= .returned .nilIface∧mX w' gb t pre post go (G.set i (.full {e with val:=v}))∧Mod [gb] w w':=by
 have Kr:i<G.length:=by rw[h.len8];exact hi
 have:=Yq gb t pre post go _ _ i hi v w h ((Ai gb t pre post go G w h i hi).2 (by rw[he];rfl));rw[Bz,he]at this;refine this.mono fun x w' ⟨h1,h2,h3⟩=>⟨h1, ?_,h3⟩;unfold mX;rw[yZ,qR]
 have hb:(G.map Slot.byte).set i (Slot.full {e with val:=v}).byte=G.map Slot.byte:=by
  apply List.ext_getElem?;intro k;rw[List.getElem?_set];split
  ·next hk=>
   subst hk;rw[if_pos (by simpa using Kr),List.getElem?_map,List.getElem?_eq_getElem Kr]
   have:G[i]= .full e:=by rw[←he,dP.getD_in Kr]
   rw[this];rfl
  ·rfl
 rw[hb];exact h2
theorem Vv (i:Nat)(hi:i<8)(e:av)(he:G.getD i .empty= .full e):
  Calls Tryz.prog 241 #[bC ⟨gb,go,none⟩,.int .i64 (i:Int)] w fun x w'=>x= .returned (.tuple #[.bool !(dQ G),.nilIface])∧mX w' gb t pre post go (G.set i (if dQ G then .empty else .qp))∧Mod [gb] w w':=by
 have hm:=(Ai gb t pre post go G w h i hi).2 (by rw[he];rfl)
 cases ho:dQ G with
 |true=>
  refine(Ie gb t pre post go _ _ i hi w h hm (by rw[Gn];exact ho)).mono fun x w' ⟨h1,h2,h3⟩=>⟨h1, ?_,h3⟩;unfold mX;rw[yZ,qR];exact h2
 |false=>
  refine(Ig gb t pre post go _ _ i hi w h hm (by rw[Gn];exact ho)).mono fun x w' ⟨h1,h2,h3⟩=>⟨h1, ?_,h3⟩;unfold mX;rw[yZ,qR];exact h2
theorem Kw:Calls Tryz.prog 131 #[bC ⟨gb,go,none⟩] w fun x w'=>x= .returned undef∧mX w' gb t pre post go (List.replicate 8 .empty)∧Mod [gb] w w':=Tc gb t pre post go _ _ w h
theorem Fy (hT:gZ w):Calls Tryz.prog 210 #[bC ⟨gb,go,none⟩] w fun e w'=>∃A c,e= .returned (.slice A (bR G).length c)∧
  w'.ownsRow w.heap.size 76 3 (.slice A (bR G).length c) (bR G).length ((bR G).flatMap aG)∧Below w.heap.size w w':=by
 have:=NR gb t pre post go _ _ w h hT
 have he:uQ (G.map Slot.byte) (G.map Slot.ent)=bR G:=by
  unfold uQ qP C8;rw[List.map_map,List.map_map];exact Il _ G 0 (fun k x hk=>by rw[Nat.zero_add,Bz,List.getD_eq_getElem?_getD,hk];rfl)
 rwa [he]at this
end
end Go.Proofs.YtbfpfgfgfjhpfaaGreatDoor
