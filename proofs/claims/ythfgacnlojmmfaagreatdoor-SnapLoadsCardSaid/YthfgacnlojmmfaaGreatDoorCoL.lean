/- A region that draws its order, in a round of a range over a function: walked as anywhere. No statement of the claim. -/
import Derived.Test.YthfgacnlojmmfaaGreatDoorCoN
import Derived.Test.YthfgacnlojmmfaaGreatDoorLaneP
import Derived.OrdersIn
import Derived.ControlIn
import Derived.RangeFuncCalls
import Derived.RangeFuncLeaves
import Derived.Test.YthfgacnlojmmfaaGreatDoorCoR
import Derived.WalkKit
import Derived.WalkSpells
import Derived.WalkLawsBesides
import Derived.Maps.AppendAt
import Derived.Deep.AppendLies
import Derived.RegionTactic
import Derived.OwnWalk
namespace Go.Proofs.YthfgacnlojmmfaaGreatDoor
set_option maxRecDepth 100000
set_option maxHeartbeats 2000000
open Go Go.RowKit Go.Shelf AmC
section
variable {i l n : Nat} {a : Act} {w : World} {F : Fence} {c : Code}
section
variable {P : Program} {ops : Array Oper} {Q : Exit → Act → World → Prop} {md : Region.Mode} {S : World → Prop} {late : List Nat}
def noDefer (ops:Array Oper):Bool:=ops.all fun o=>match o.op with
 | .defer _=>false
 |_=>true
theorem noDefer_spec (h:noDefer ops=true)(i:Nat)(o:Oper)(hi:ops[i]?=some o)(c:Call):o.op≠ .defer c:=fun he=>by
 obtain⟨hlt,rfl⟩:=Array.getElem?_eq_some_iff.1 hi;have:=Array.all_eq_true.1 h i hlt;rw[he]at this;cases this
theorem wpOpIn_of {K K':Act→World→Prop}(hnd:noDefer ops=true)(hQ:¬LetsOut Q)(hK:∀a w,K a w→K' a w)(h:wpOp P ops Q i K a w):wpOpIn (Fence.wide.inRound l) n P ops Q i K' a w:=by
 unfold wpOp at h;unfold wpOpIn
 cases hi:ops[i]? with
 |none=>rw[hi]at h;exact hK _ _ h
 |some o=>
  rw[hi]at h;dsimp only at h⊢;split
  ·next hw=>
   rw[if_pos hw]at h;rcases h with h|⟨_,hl⟩
   ·refine⟨fun _ _=>trivial, ?_⟩;rw[Oper.semAt_eq _ _ _ (noDefer_spec hnd i o hi)];unfold Oper.wp at h;generalize(execOp a.eval o).run P w=r at*
    cases r with
    |ok x w'=>
     cases x<;>simp only[Oper.upon,Oper.uponIn]at h⊢
     case value u=>exact hK _ _ h
     case skip=>exact hK _ _ h
     case defer d=>exact hK _ _ h
     case enter f args=>
      refine⟨fun hd=>by simp[Fence.wide]at hd,CallsIn.inRound l ((callsIn_wide.2 h).mono fun e w'' he=> ?_)⟩
      cases e with
      |returned u=>exact hK _ _ he
      |panicked c=>exact he
      |outgrown=>exact he
     case row row args=>
      refine⟨fun hd=>by simp[Fence.wide]at hd,fun c cs _=> ?_⟩;obtain⟨v,w1,h1,h2⟩:=h c cs;exact⟨v,w1,hK _ _ h1,stepsIn_wide.2 h2⟩
    |halt x w'=>cases x<;>simp only[Oper.upon,Oper.uponIn]at h⊢<;>exact h
   ·exact absurd hl hQ
  ·next hw=>
   rw[if_neg hw]at h;exact⟨fun _ _=>trivial,hK _ _ h⟩
theorem wpAnyIn_of (hnd:noDefer ops=true)(hQ:¬LetsOut Q):∀(f:Nat) (listed:Array Bool) (a:Act) (w:World),wpAny P md ops Q f listed a w→wpAnyIn (Fence.wide.inRound l) n P md ops Q f listed a w
 |0,_,_,_,h=>h
 |f+1,_,_,_,h=>⟨h.1,fun i hi=>wpOpIn_of hnd hQ (fun a' w' h'=>wpAnyIn_of hnd hQ f _ a' w' h') (h.2 i hi)⟩
theorem region_I {id:Nat}(S:World→Prop)(late:List Nat)(hm:P.follows .mixedOrders=true)(hnd:noDefer ops=true)(hQ:¬LetsOut Q)(h:wpAnyT P .any ops Q S late ops.size (Array.replicate ops.size false) a {w with drawn:=w.drawn+1}):(Code.region id ops true).wpIn (Fence.wide.inRound l) n P Q a w:=
 wpIn_region_any hm (wpAnyIn_of hnd hQ _ _ _ _ (wpAny_of_T _ _ _ _ h))
theorem pairT {j:Nat}{o o':Oper}{f:Nat}{listed:Array Bool}(hi:ops[i]?=some o)(hj:ops[j]?=some o')(hr:Region.ready md ops listed=[i,j])(h1:∀K:Act→World→Prop,RowKit.Hid (∀a' w',(i∉late→S w')→wpAnyT P md ops Q S late f (listed.setIfInBounds i true) a' w'→K a' w')→if Region.wanted o (yielded ops a.tmps)=true then o.wp P a w K Q else K (a.put o.dst undef) w)(h2:∀K:Act→World→Prop,RowKit.Hid (∀a' w',(j∉late→S w')→wpAnyT P md ops Q S late f (listed.setIfInBounds j true) a' w'→K a' w')→if Region.wanted o' (yielded ops a.tmps)=true then o'.wp P a w K Q else K (a.put o'.dst undef) w):wpAnyT P md ops Q S late (f+1) listed a w:=by
 have one:∀(k:Nat) (x:Oper),ops[k]?=some x→k∈Region.ready md ops listed→
   (∀K:Act→World→Prop,RowKit.Hid (∀a' w',(k∉late→S w')→wpAnyT P md ops Q S late f (listed.setIfInBounds k true) a' w'→K a' w')→if Region.wanted x (yielded ops a.tmps)=true then x.wp P a w K Q else K (a.put x.dst undef) w)→
   wpOp P ops Q k (fun a' w'=>(Early late (listed.setIfInBounds k true)→S w')∧wpAnyT P md ops Q S late f (listed.setIfInBounds k true) a' w') a w:=by
  intro k x hk hkr h;have hun:listed.getD k true=false:=(mem_ready.1 hkr).1;unfold wpOp;simp only[hk]
  have:=h (fun a' w'=>(Early late (listed.setIfInBounds k true)→S w')∧wpAnyT P md ops Q S late f (listed.setIfInBounds k true) a' w') (qd fun a' w' h1 h2=>⟨fun hE=>by
   by_cases hkn:k∈late
   ·have h3:=hE k hkn
    have hlt:k<listed.size:=by
     rcases Nat.lt_or_ge k listed.size with h'|h'
     ·exact h'
     ·simp[Array.getElem?_eq_none h']at hun
    simp[hlt]at h3
   ·exact h1 hkn,h2⟩)
  split
  ·next hw=>rw[if_pos hw]at this;exact .inl this
  ·next hw=>rw[if_neg hw]at this;exact this
 refine⟨(fun h0=>by rw[hr]at h0;cases h0),fun k hk=> ?_⟩;have hk':=hk;rw[hr]at hk;rcases List.mem_cons.1 hk with rfl|hk
 ·exact one _ o hi hk' h1
 ·obtain rfl:k=j:=by simpa using hk
  exact one _ o' hj hk' h2
def cutQ (R:Act→World→Prop)(Q:Exit→Act→World→Prop):Exit→Act→World→Prop
 | .normal,a,w=>R a w
 |e,a,w=>Q e a w
theorem cutI (R:Act→World→Prop)(h:c.wpIn F n P (cutQ R Q) a w)(hR:∀a w,R a w→Q .normal a w):c.wpIn F n P Q a w:=
 wpIn_mono h fun e a w hq=>by cases e<;>first|exact hR _ _ hq|exact hq
def calmQ (Q:Exit→Act→World→Prop):Exit→Act→World→Prop
 | .panic _,_,_=>False
 |e,a,w=>Q e a w
theorem callsIn_of_wp_calm {f:FuncId}{fn:Func}{args:Array Value}{R:Ending→World→Prop}(hf:P.funcs[f]?=some fn)(hb:fn.body=some c)(hF:F.fn f)(hro:F.round=none)(h:c.wpIn F n P (calmQ (bodyPostM F n P fn R)) {tmps:=args++Array.replicate (fn.ntmps-args.size) undef,defers:=[]} w):CallsIn F n P f args w R:=
 callsIn_of_wp_marks hf hb hF (wpIn_mono h fun e _ _ hq=>by cases e<;>first|exact hq|exact hq.elim) hro
end
end
section
variable {l : List Nat} {es : List Ent} {h2 key : Nat}
attribute [local go_sem] Oper.semAt_some
def findR (l:List Nat)(es:List Ent)(key h2:Nat):Option Nat:=(lanesFrom 0 (l.map (eqB h2))).find? fun i=>(es.getD i ⟨0,0,0⟩).key==key
theorem findR_none {ys:List (Fin 8)}(hys:ys.map Fin.val=lanesFrom 0 ((l.map (eqB h2)).map topB))(hp:∀x∈ys,((es.getD x.val ⟨0,0,0⟩).key==key)=false):findR l es key h2=none:=by
 unfold findR;rw[top_marks (marks_eq h2 l)]at hys;rw[←hys,List.find?_eq_none];intro x hx;obtain⟨y,hy,rfl⟩:=List.mem_map.1 hx;rw[hp y hy];simp
theorem findR_some {pre:List (Fin 8)}{x:Fin 8}{r:List Nat}(hys:(pre++[x]).map Fin.val++r=lanesFrom 0 ((l.map (eqB h2)).map topB))(hp:∀x∈pre,((es.getD x.val ⟨0,0,0⟩).key==key)=false)(hx:((es.getD x.val ⟨0,0,0⟩).key==key)=true):findR l es key h2=some x.val:=by
 unfold findR;rw[top_marks (marks_eq h2 l)]at hys
 rw[←hys,List.map_append,List.append_assoc,List.find?_append,List.find?_eq_none.2 (fun y hy=>by
  obtain⟨z,hz,rfl⟩:=List.mem_map.1 hy
  rw[hp z hz];simp)]
 show Option.or none (List.find? _ (x.val::r))=_;rw[List.find?_cons_of_pos (p:=fun i=>(es.getD i ⟨0,0,0⟩).key==key) hx];rfl
theorem leavesM {F:Fence}{n:Nat}{P:Program}{fn:Func}{R:Ending→World→Prop}{a:Act}{w:World}(h:LeavesInM F n P fn a.tmps R a.defers .returning w):calmQ (bodyPostM F n P fn R) .ret a w:=h
theorem view_Find (gb:Nat)(t:TypeId)(pre post:List Value)(go:Nat)(l:List Nat)(es:List Ent)(key hash:Nat)(h64:hash<18446744073709551616)(w:World)(h:GRaw w gb t pre post go l es)(hT:TzIn w):
  Calls Tryz.prog 140 #[viewV ⟨gb,go,none⟩,.int .u64 (key:Int),.int .u64 (hash:Int)] w fun e w'=>e= .returned (.int .i64 (optI (findR l es key (hash % 128))))∧Below w.heap.size w w':=by
 obtain⟨W,hW,hB,hV,hK,hR⟩:=qX3 w 202 #[.pointer (some ⟨gb,go,none⟩)] 33 #[.int .u64 (key:Int)] 3 #[.int .i64 0];have hG:=h.below hB;have H2:=qd (split_H2 hash h64);have HMt:=qd (ctrl_Match l h.l8 h.bytes (hash % 128) (by omega));have HW:=qd hW;have HB:=qd hB;have hg:=World.block_lt_of_cell? w _ (hT 0 (by omega));have hl8:=h.l8;unfold viewV;clear hW h hB;refine(callsIn_wide (n:=10)).1 ?_
 have h1:1≤10:=by omega
 refine callsIn_of_wp_calm Tryz.func140 rfl trivial rfl ?_;simp only[Tryz.ntmps140,List.size_toArray,List.length_cons,List.length_nil,Nat.reduceAdd,Nat.reduceSub,Array.replicate_succ,Array.replicate_zero,List.push_toArray,List.append_toArray,List.nil_append,List.cons_append];refine wpIn_wide.2 ?_;go_upto_region 1 with fail;rw[←HW.out];have v0:=hV.cell 0;simp only[List.getElem?_toArray,List.getElem?_cons_zero]at v0;have hw:=hG.word;refine rT (fun(w':World)=>w'.cell? ⟨w.heap.size,0,none⟩=some (.pointer (some ⟨gb,go,none⟩))∧w'.cell? ⟨gb,go,none⟩=some (.int .u64 ((w8 l:Nat):Int))) [] ?_;have hHeld:=(⟨v0,hw⟩:_∧_);refine vW 0 rfl ?_;refine vT 1 rfl ?_;refine vW 2 rfl ?_;refine vW 3 rfl ?_;refine vT 4 rfl ?_;refine vW 5 rfl ?_;refine nT 6 rfl fun K hK=> ?_;go_simp;refine(H2.out _).mono ?_;rintro e w1 ⟨rfl,rfl⟩;go_wp2_with fail;have hHeld:=(⟨v0,hw⟩:_∧_);refine kO hK ?_;clear hK K;refine nT 7 rfl fun K hK=> ?_;go_simp;refine(HMt.out _).mono ?_;rintro e w1 ⟨rfl,rfl⟩;go_wp2_with fail;have hHeld:=(⟨v0,hw⟩:_∧_);refine kO hK ?_;clear hK K;refine nT 8 rfl fun K hK=> ?_;go_simp;refine(swar_Lanes (l.map (eqB (hash % 128))) _).mono ?_;rintro e w1 ⟨rfl,hw1⟩;have hb1:Below W.heap.size W w1:=hw1▸((Below.refl W.heap.size W).drew).alloc (Nat.le_refl _) _;have hL1:Blk w1 W.heap.size 33 #[.int .u64 ((w8 (l.map (eqB (hash % 128))):Nat):Int)]:=hw1▸Blk.new W.drew _ _;clear hw1;go_wp2_with fail;replace v0:=cell_in hb1 v0;replace hw:=cell_in hb1 hw
 have hHeld:=(⟨v0,hw⟩:_∧_);refine kO hK ?_;clear hK K;refine doneT (by kernel_rfl) ?_ _;go_wp2_with fail;refine(wpIn_wide (n:=10)).1 ?_;have hB1:Below w.heap.size w w1:=below_nx hb1 HB.out;have hlt3:w.heap.size+1+1<W.heap.size:=hR.lt;have hT1:TzIn w1:=fun i hi=>(hB1.cell (p:=⟨18,tzIdx i,none⟩) hg).trans (hT i hi);have hG1:=hG.below hb1;have hK1:=(hK.below hb1 hK.lt).cell 0;have hR1:=hR.below hb1 hR.lt;have hbl:=hB1.size;simp only[List.getElem?_toArray,List.getElem?_cons_zero]at hK1
 refine wpIn_rangeFunc_ownH rfl h1 (gf:=237) (lb:= #[.pointer (some ⟨W.heap.size,0,none⟩)]) rfl trivial (enters_of Tryz.func237 (by kernel_rfl) rfl)
  (lanes_stops (10-1) (by omega) W.heap.size w1.heap.size [] (l.map (eqB (hash % 128))) (by simpa using hl8) (marks_eq _ l).bytes w1 (by omega) (by simp) (Nat.le_refl _) hL1.lt (hL1.cell 0) hT1) keepS_t (keepS_b (Nat.le_refl _)) (Below.refl _ _) (fun _=>rfl)
  (fun pre V=>(∀x∈pre,((es.getD x.val ⟨0,0,0⟩).key==key)=false)∧Below w1.heap.size w1 V)
  (fun c pre V=>(c= .ret∧∃pre' x,pre=pre'++[x]∧(∀y∈pre',((es.getD y.val ⟨0,0,0⟩).key==key)=false)∧((es.getD x.val ⟨0,0,0⟩).key==key)=true∧Boxed V (w.heap.size+1+1) 3 (.int .i64 (x.val:Int)))∧Below w.heap.size w V)
  (OwnFrom.and (fun _ _ _ _ hs _ _=>hs) (ownFrom_below (Nat.le_refl _) (Nat.le_refl _)))
  (fun c=>OwnFrom.and (fun _ X Y row hs hg hr=>by
   obtain⟨h0,pre',x,h2,h3,h4,h5⟩:=hs
   exact⟨h0,pre',x,h2,h3,h4,boxed_own (w.heap.size+1+1) 3 (fun(_:Unit)=>Value.int .i64 (x.val:Int)) () X Y row h5 hg (fun r e=>(hr r e).2)⟩) (ownFrom_below (Nat.le_refl _) (by omega)))
  ⟨by simp,Below.refl _ _⟩
  (fun x a' _=>a'={tmps:= #[.agg #[.pointer (some ⟨gb,go,none⟩)],.int .u64 (key:Int),.int .u64 (hash:Int),.pointer (some ⟨w.heap.size,0,none⟩),.pointer (some ⟨w.heap.size+1,0,none⟩),undef,.pointer (some ⟨w.heap.size+1+1,0,none⟩),.int .i64 (x.val:Int),.pointer (some ⟨w.heap.size,0,none⟩),.pointer (some ⟨gb,go,none⟩),.pointer (some ⟨gb,go,none⟩),.pointer (some ⟨gb,go,none⟩),.int .u64 ((w8 l:Nat):Int),.int .u64 (hash:Int),.int .u8 ((hash:Int) % 128),.int .u64 ((w8 (List.map (eqB (hash % 128)) l):Nat):Int),.func (.func 237) #[] #[.pointer (some ⟨W.heap.size,0,none⟩)],.int .i64 (x.val:Int),undef,undef,undef,undef,undef,undef,undef,undef,undef,undef,undef],defers:=[]})
  (fun _ _ _ _ _ _ hs _ _=>hs) ?assign ?body ?done ?stop
 case assign=>
  rintro lp pre x V K hi hK
  gi_wp2
  exact hK _ _ (KeepsFrom.refl _ _) (KeepS.refl _ _ _) hi rfl
 case body=>
  rintro lp pre x a' V hl ⟨r,hr⟩ ⟨hp,hV1⟩ rfl hlt;have hx8:x.val<8:=x.isLt;have hv:=cell_in hV1 v0;have hk:=cell_in hV1 hK1;have s0:=(hG1.below hV1).at_ x.val 0 hx8 (by omega);rw[Nat.add_zero]at s0;simp only[entCells,List.getElem?_cons_zero]at s0
  have hxi:(x.val:Int)<8:=by omega
  have hx0:(0:Int)≤(x.val:Int):=by omega
  have HPr:=qd hp
  have HO:(((es.getD x.val ⟨0,0,0⟩).key:Int)==(key:Int))=((es.getD x.val ⟨0,0,0⟩).key==key):=by rw[Bool.eq_iff_iff,beq_iff_eq,beq_iff_eq];omega
  generalize hkx:(es.getD x.val ⟨0,0,0⟩).key=kx at*;have HKx:=qd hkx;clear hp hkx
  gi_wp2_with fail
  refine region_I (fun(w':World)=>w'.cell? ⟨w.heap.size,0,none⟩=some (.pointer (some ⟨gb,go,none⟩))∧w'.cell? ⟨w.heap.size+1,0,none⟩=some (.int .u64 (key:Int))∧w'.cell? ⟨gb,go+1+x.val*3,none⟩=some (.int .u64 (kx:Int))) [] (by kernel_rfl) (by kernel_rfl) (by rintro⟨_,_,h⟩;exact h) ?_
  try (change wpAnyT _ _ _ _ _ _ _ _ _ (World.drew _))
  have hHeld:=(⟨hv,hk,s0⟩:_∧_∧_);refine vW 0 rfl ?_;refine vT 1 rfl ?_;refine vW 2 rfl ?_;refine vW 3 rfl ?_;refine vW 4 rfl ?_;refine vW 5 rfl ?_;refine vW 6 rfl ?_;refine vT 7 rfl ?_;refine vT 8 rfl ?_;refine vW 9 rfl ?_;refine doneT (by kernel_rfl) ?_ _
  cases hb:(kx==key)with
  |false=>
   rw[hb]at HO
   gi_wp2
   exact⟨(KeepsOthers.drew _).from _,KeepS.drew _ _ _,fun y hy=>(List.mem_append.1 hy).elim (HPr.out y) (fun e=>by simp at e;subst e;rw[HKx.out];exact hb),hV1.drew⟩
  |true=>
   rw[hb]at HO;have cR:=(hR1.below hV1 hR1.lt).cell 0;have fR:=(hR1.below hV1 hR1.lt).frozen 0;simp only[List.getElem?_toArray,List.getElem?_cons_zero]at cR
   gi_wp2
   have hBx:Boxed V (w.heap.size+1+1) 3 (.int .i64 0):=hR1.below hV1 hR1.lt;exact⟨((KeepsOthers.drew V).trans (KeepsOthers.setCell V.drew ⟨w.heap.size+1+1,0,none⟩ (.int .i64 (x.val:Int)))).from _,⟨rfl,pre,x,rfl,HPr.out,by rw[HKx.out];exact hb,(show Boxed V.drew (w.heap.size+1+1) 3 (.int .i64 0)from hBx).set _⟩,((hB1.trans (hV1.mono hB1.size)).drew).setCell (p:=⟨w.heap.size+1+1,0,none⟩) (by simp;omega) _⟩
 case done=>
  rintro D ys V hD hys ⟨hp,hV1⟩ hKD;have cR:=(hR1.below hV1 hR1.lt).cell 0;have fR:=(hR1.below hV1 hR1.lt).frozen 0;simp only[List.getElem?_toArray,List.getElem?_cons_zero]at cR;have hBx:Boxed V (w.heap.size+1+1) 3 (.int .i64 0):=hR1.below hV1 hR1.lt;go_wp2;have hK':=(KeepsOthers.setCell V ⟨w.heap.size+1+1,0,none⟩ (.int .i64 (-1))).same D _ hKD rfl;refine leavesM ⟨by simp,.inl ⟨_,_,rfl,run_takeDeferred hK', ?_⟩⟩;have hc5:=cell_kept (hBx.set (.int .i64 (-1))).cell (grownBy_putObj' _ D (.deferred none)) (fun r e=>by cases e;exact⟨_,hK',rfl⟩);refine⟨.int .i64 (-1), ?_,by rw[findR_none hys hp];rfl,((hB1.trans (hV1.mono hB1.size)).setCell (p:=⟨w.heap.size+1+1,0,none⟩) (by simp;omega) _).trans (belowK_b (w:=w) (Nat.le_refl _) _ D _ _ (by omega) hK' rfl rfl)⟩;simp[results,Tryz.f140,go_sem,hc5]
 case stop=>
  rintro D c pre V hD ⟨r,hr⟩ ⟨⟨rfl,pre',x,he,hp,hx,bR1⟩,hV1⟩ hKD
  gi_wp2
  refine leavesM ⟨by simp,.inl ⟨_,_,rfl,run_takeDeferred hKD, ?_⟩⟩;have hc5:=cell_kept bR1.cell (grownBy_putObj' _ D (.deferred none)) (fun r e=>by cases e;exact⟨_,hKD,rfl⟩);refine⟨.int .i64 (x.val:Int), ?_,by rw[findR_some (by rw[he]at hr;exact hr) hp hx];rfl,hV1.trans (belowK_b (w:=w) (Nat.le_refl _) V D _ _ (by omega) hKD rfl rfl)⟩;simp[results,Tryz.f140,go_sem,hc5]
end
section
section
variable {w w' : World} {g : Nat} {t : TypeId} {cs : Array Value}
theorem Blk.setCell_id (h:Blk w g t cs){i:Nat}{u:Value}(hu:cs[i]?=some u):w.setCell ⟨g,i,none⟩ u=w:=by
  have e:(w.setCell ⟨g,i,none⟩ u).heap=w.heap:=by
    apply Array.ext_getElem?;intro j;by_cases hj:j=g
    · subst hj;have h1:=h.set_ i u;unfold Blk at h1 h;rw[h1,h]
      have:cs.setIfInBounds i u=cs:=by
        apply Array.ext_getElem?;intro k;rw[Array.getElem?_setIfInBounds];split
        · next hk => subst hk; split
                     · exact hu.symm
                     · next hlt=>rw[Array.getElem?_eq_none (by omega)]at hu;cases hu
        · rfl
      rw[this]
    · exact Below.heap_setCell w _ u j hj
  cases w;simp only[World.setCell]at e⊢;rw[e]
end
end
section
variable {o : Oper} {a : Act} {K : Act → World → Prop} {Q : Exit → Act → World → Prop} {ops : Array Oper} {rest : List Oper} {E : Prop} {B base bytes c m n size : Nat} {e t : TypeId} {v : Value} {news xs : List Value} {s x : Operand} {A : Option Addr}
section
variable {P : Program} (w : World)
theorem run_append_of_nil (base:Nat)(t ty e:TypeId)(i:TypeInfo)(size:Nat)(ht:P.underlying t=some (.slice e))(hi:P.info? e=some i)(v:Value)(n:Nat)(xs:List Value)(hown:w.ownsRow base e size v n xs)(c:Nat):(Builtin.append_ #[t,t] ty #[v,.slice none 0 c]).run P w= .ok v w:=by
 rcases hown.2 with⟨rfl,rfl⟩|⟨g,cap,cur,rfl,_,_,hnc,_⟩
 ·simp[Builtin.append_,run_underlying ht,sizeOf,typeInfo,hi,Builtin.lenOf,Builtin.firstCells]
 ·simp[Builtin.append_,run_underlying ht,sizeOf,typeInfo,hi,Builtin.lenOf,Builtin.firstCells,hnc,storeCells]
theorem run_append_any (base:Nat)(t ty e:TypeId)(i:TypeInfo)(z:Value)(size bytes:Nat)(ht:P.underlying t=some (.slice e))(hi:P.info? e=some i)(hz:i.zero=some z)(hsize:i.size=size)(hby:i.bytes=bytes)(hzs:z.cells.size=size)(hsz:0<size)(v:Value)(n:Nat)(xs:List Value)(hown:w.ownsRow base e size v n xs)(B:Nat)(A:Option Addr)(m c:Nat)(news:List Value)(hr:Reads w B size A m news)(h1:∀u∈news,u.oneCell'=true)(h63:n+m≤maxLen)(hbytes:(n+m)*bytes≤140737488355328)(hbase:base≤w.heap.size):
  ∃v' w',(Builtin.append_ #[t,t] ty #[v,.slice A m c]).run P w= .ok v' w'∧w'.ownsRow base e size v' (n+m) (xs++news)∧w.grownBy w' v.ownBlock∧
   (v'.ownBlock=v.ownBlock∨v'.ownBlock=some w.heap.size):=by
 rcases A with _|ad
 ·have hm:m=0:=by
   rcases Nat.eq_zero_or_pos m with h0|h0
   ·exact h0
   ·obtain⟨b,off,h,_⟩:=hr.2 h0;cases h
  subst hm;have hn:news=[]:=List.eq_nil_of_length_eq_zero (by simpa using hr.1);subst hn;exact⟨v,w,run_append_of_nil w base t ty e i size ht hi v n xs hown c,by simpa using hown,World.grownBy.refl w _,.inl rfl⟩
 ·have hcells:∀j u,news[j]?=some u→w.cell? (ad.add j)=some u:=by
   intro j u hu;rcases Nat.eq_zero_or_pos m with h0|h0
   ·subst h0;have hn:news=[]:=List.eq_nil_of_length_eq_zero (by simpa using hr.1);subst hn;simp at hu
   ·obtain⟨b,off,h,_,hc⟩:=hr.2 h0
    injection h with h
    subst h;rw[show(⟨b,off,none⟩:Addr).add j=⟨b,off+j,none⟩from by unfold Addr.add;split<;>simp_all];exact hc j u hu
  obtain⟨v',w',hrun,h2,h3,_,h5⟩:=run_append_own_at (P:=P) w base t ty e i z size bytes ht hi hz hsize hby hzs hsz v n xs hown ad m c news hr.1 hcells h1 h63 hbytes hbase;exact⟨v',w',hrun,h2,h3,h5⟩
theorem wp_append_any (s x:Operand)(t:TypeId)(ho:o.op= .call {callee:= .builtin .append,args:= #[s,x],argTypes:= #[t,t]})(base:Nat)(e:TypeId)(i:TypeInfo)(z:Value)(size bytes:Nat)(ht:P.underlying t=some (.slice e))(hi:P.info? e=some i)(hz:i.zero=some z)(hsize:i.size=size)(hby:i.bytes=bytes)(hzs:z.cells.size=size)(hsz:0<size)(v:Value)(n:Nat)(xs:List Value)(hs:a.eval s=v)(hown:w.ownsRow base e size v n xs)(B:Nat)(A:Option Addr)(m c:Nat)(news:List Value)(hx:a.eval x= .slice A m c)(hr:Reads w B size A m news)(h1:∀u∈news,u.oneCell'=true)(h63:n+m≤maxLen)(hbytes:(n+m)*bytes≤140737488355328)(hbase:base≤w.heap.size)(h:∀v' w',w'.ownsRow base e size v' (n+m) (xs++news)→w.grownBy w' v.ownBlock→(v'.ownBlock=v.ownBlock∨v'.ownBlock=some w.heap.size)→K (a.put o.dst v') w'):o.wp P a w K Q:=by
 obtain⟨v',w',hrun,h2,h3,h4⟩:=run_append_any (P:=P) w base t o.type e i z size bytes ht hi hz hsize hby hzs hsz v n xs hown B A m c news hr h1 h63 hbytes hbase;unfold Oper.wp execOp;simp only[ho,resolve,invoke,builtin,Sem.run_bind,Sem.run_pure,Result.andThen_ok,List.map_toArray,List.map_cons,List.map_nil,hs,hx,hrun];exact h v' w' h2 h3 h4
theorem wpList_append_any (hgd:o.guard=none)(s x:Operand)(t:TypeId)(ho:o.op= .call {callee:= .builtin .append,args:= #[s,x],argTypes:= #[t,t]})(base:Nat)(e:TypeId)(i:TypeInfo)(z:Value)(size bytes:Nat)(ht:P.underlying t=some (.slice e))(hi:P.info? e=some i)(hz:i.zero=some z)(hsize:i.size=size)(hby:i.bytes=bytes)(hzs:z.cells.size=size)(hsz:0<size)(v:Value)(n:Nat)(xs:List Value)(hs:a.eval s=v)(hown:w.ownsRow base e size v n xs)(B:Nat)(A:Option Addr)(m c:Nat)(news:List Value)(hx:a.eval x= .slice A m c)(hr:Reads w B size A m news)(h1:∀u∈news,u.oneCell'=true)(h63:n+m≤maxLen)(hbytes:(n+m)*bytes≤140737488355328)(hbase:base≤w.heap.size)(h:∀v' w',w'.ownsRow base e size v' (n+m) (xs++news)→w.grownBy w' v.ownBlock→(v'.ownBlock=v.ownBlock∨v'.ownBlock=some w.heap.size)→wpList P ops Q rest (a.put o.dst v') w'):wpList P ops Q (o::rest) a w:=
 wpList_plain hgd fun _ hK=>wp_append_any w s x t ho base e i z size bytes ht hi hz hsize hby hzs hsz v n xs hs hown B A m c news hx hr h1 h63 hbytes hbase fun v' w' h2 h3 h4=>hK _ _ (h v' w' h2 h3 h4)
theorem step_append_any (hgd:o.guard=none)(s x:Operand)(t:TypeId)(ho:o.op= .call {callee:= .builtin .append,args:= #[s,x],argTypes:= #[t,t]})(base:Nat)(e:TypeId)(i:TypeInfo)(z:Value)(size bytes:Nat)(ht:P.underlying t=some (.slice e))(hi:P.info? e=some i)(hz:i.zero=some z)(hsize:i.size=size)(hby:i.bytes=bytes)(hzs:z.cells.size=size)(hsz:0<size)(v:Value)(n:Nat)(xs:List Value)(hs:a.eval s=v)(hown:w.ownsRow base e size v n xs)(B:Nat)(A:Option Addr)(m c:Nat)(news:List Value)(hx:a.eval x= .slice A m c)(hr:Reads w B size A m news)(h1:∀u∈news,u.oneCell'=true)(h63:n+m≤maxLen)(hbytes:(n+m)*bytes≤140737488355328)(hbase:base≤w.heap.size)(h:∀v' w',w'.ownsRow base e size v' (n+m) (xs++news)→w.grownBy w' v.ownBlock→(v'.ownBlock=v.ownBlock∨v'.ownBlock=some w.heap.size)→K (a.put o.dst v') w'):
  if Region.wanted o (yielded ops a.tmps)=true then Oper.wp P o a w K Q else E:=by
 have hw:Region.wanted o (yielded ops a.tmps)=true:=by simp[Region.wanted,hgd]
 rw[if_pos hw];exact wp_append_any w s x t ho base e i z size bytes ht hi hz hsize hby hzs hsz v n xs hs hown B A m c news hx hr h1 h63 hbytes hbase h
end
theorem grew_of {v':Value}{w w':World}(hown:w.ownsRow base e size v n xs)(hbase:base≤w.heap.size)(hg:w.grownBy w' v.ownBlock)(hat:v'.ownBlock=v.ownBlock∨v'.ownBlock=some w.heap.size):Grew w base v w' v':=
 ⟨(Below.refl base w).grown hg hbase (fun k hk=>(hown.lt k hk).1),hg,hat.imp_right fun h=>⟨_,h,Nat.le_refl _⟩⟩
theorem step_app {P:Program}{w:World}(hgd:o.guard=none)(ho:o.op= .call {callee:= .builtin .append,args:= #[s,x],argTypes:= #[t,t]})(hT:SlTy P t e size bytes)(hown:w.ownsRow base e size v n xs)(hs:a.eval s=v)(hx:a.eval x= .slice A m c)(hr:Reads w B size A m news)(h1':(news.all fun u=>u.oneCell')=true)(hn:n+m<33554432)(hbase:base≤w.heap.size)(h:∀v' w',w'.ownsRow base e size v' (n+m) (xs++news)→Grew w base v w' v'→K (a.put o.dst v') w'):
  if Region.wanted o (yielded ops a.tmps)=true then Oper.wp P o a w K Q else E:=by
 obtain⟨i,z,ht,hi,hz,hsize,hby,hzs,hsz,hb⟩:=hT
 refine step_append_any w hgd s x t ho base e i z size bytes ht hi hz hsize hby hzs hsz v n xs hs hown B A m c news hx hr (List.all_eq_true.1 h1') (by simp only[maxLen];omega) ?_ hbase
  (fun v' w' h2 h3 h4=>h v' w' h2 (grew_of hown hbase h3 h4))
 have:(n+m)*bytes≤33554432*4096:=Nat.mul_le_mul (by omega) hb;omega
theorem wpList_app {P:Program}{w:World}(hgd:o.guard=none)(ho:o.op= .call {callee:= .builtin .append,args:= #[s,x],argTypes:= #[t,t]})(hT:SlTy P t e size bytes)(hown:w.ownsRow base e size v n xs)(hs:a.eval s=v)(hx:a.eval x= .slice A m c)(hr:Reads w B size A m news)(h1':(news.all fun u=>u.oneCell')=true)(hn:n+m<33554432)(hbase:base≤w.heap.size)(h:∀v' w',w'.ownsRow base e size v' (n+m) (xs++news)→Grew w base v w' v'→wpList P ops Q rest (a.put o.dst v') w'):wpList P ops Q (o::rest) a w:=by
 obtain⟨i,z,ht,hi,hz,hsize,hby,hzs,hsz,hb⟩:=hT
 refine wpList_append_any w hgd s x t ho base e i z size bytes ht hi hz hsize hby hzs hsz v n xs hs hown B A m c news hx hr (List.all_eq_true.1 h1') (by simp only[maxLen];omega) ?_ hbase
  (fun v' w' h2 h3 h4=>h v' w' h2 (grew_of hown hbase h3 h4))
 have:(n+m)*bytes≤33554432*4096:=Nat.mul_le_mul (by omega) hb;omega
theorem own_caps {w:World}(h:w.ownsRow base e size (.slice A n c) n xs):(A=none∧n=0∧c=0)∨∃g,A=some ⟨g,0,none⟩∧n≤c∧base≤g∧g<w.heap.size:=by
 rcases h.2 with⟨hv,hx⟩|⟨g,cap,cur,hv,hg,hh,hcap,_⟩
 ·injection hv with h1 h2 h3
  exact .inl ⟨h1,h2,h3⟩
 ·injection hv with h1 h2 h3
  subst h3;exact .inr ⟨g,h1,hcap,hg,(Array.getElem?_eq_some_iff.1 hh).1⟩
theorem reads_blk {w:World}{g:Nat}{cs:Array Value}(h:Blk w g t cs)(hl:cs.size=m*size):Reads w w.heap.size size (some ⟨g,0,none⟩) m cs.toList:=
 ⟨by simpa using hl,fun _=>⟨g,0,rfl,h.lt,fun j u hu=>by
  rw[Nat.zero_add,h.cell]
  simpa using hu⟩⟩
end
section
attribute [local go_sem] Oper.semAt_some
theorem own_base {w:World}{b b' e size n:Nat}{v:Value}{xs:List Value}(h:w.ownsRow b e size v n xs)(hb:b'≤b):w.ownsRow b' e size v n xs:=
 ⟨h.1,h.2.imp id fun⟨g,cap,cur,h1,h2,h3⟩=>⟨g,cap,cur,h1,Nat.le_trans hb h2,h3⟩⟩
theorem info_Ent:(Tryz.prog.info? 45).map (fun i=>(i.zero,i.size,i.bytes))=some (some (.agg #[.int .u64 0,.int .u64 0,.int .u64 0]),3,24):=by kernel_rfl
theorem keepsFrom_app {B base n:Nat}{V V2 w4:World}{e:TypeId}{size:Nat}{v v4:Value}{xs:List Value}(_:B≤V.heap.size)(hb:Below V.heap.size V V2)(ho:V2.ownsRow base e size v n xs)(hg:Grew V2 base v w4 v4):KeepsFrom B V w4:=by
 have h1:KeepsOthers V V2:=⟨hb.size,fun k o hk _=>(hb.block k (Array.getElem?_eq_some_iff.1 hk).1).trans hk⟩
 have h2:KeepsOthers V2 w4:=KeepsOthers.of_grownBy hg.by_ (fun j o hj ho'=>by
  rcases ho.2 with⟨rfl,_⟩|⟨g,cap,cur,rfl,_,hh,_⟩
  ·simp[Value.ownBlock]at hj
  ·have:g=j:=by simpa[Value.ownBlock]using hj
   subst this;rw[hh]at ho'
   cases ho';rfl)
 exact(h1.trans h2).from B
theorem slty_Ent:SlTy Tryz.prog 41 45 3 24:=slTy Tryz.underlying41 info_Ent rfl (by decide) (by decide)
def entsR (l:List Nat)(es:List Ent):List Ent:=(lanesFrom 0 (fullL l)).map fun i=>es.getD i ⟨0,0,0⟩
def atR (es:List Ent)(pre:List (Fin 8)):List Ent:=pre.map fun x=>es.getD x.val ⟨0,0,0⟩
theorem marks_full (l:List Nat):Marks (fullL l):=marks_top _
theorem full_length (l:List Nat):(fullL l).length=l.length:=by simp[fullL,notL]
theorem entsR_of {l:List Nat}{es:List Ent}{ys:List (Fin 8)}(hys:ys.map Fin.val=lanesFrom 0 ((fullL l).map topB)):atR es ys=entsR l es:=by
 rw[top_marks (marks_full l)]at hys;unfold entsR atR;rw[←hys,List.map_map];rfl
theorem atR_snoc (es:List Ent)(pre:List (Fin 8))(x:Fin 8):(atR es (pre++[x])).flatMap entCells=(atR es pre).flatMap entCells++entCells (es.getD x.val ⟨0,0,0⟩):=by simp[atR]
theorem view_Entries (gb:Nat)(t:TypeId)(ahead post:List Value)(go:Nat)(l:List Nat)(es:List Ent)(w:World)(h:GRaw w gb t ahead post go l es)(hT:TzIn w):
  Calls Tryz.prog 225 #[viewV ⟨gb,go,none⟩] w fun e w'=>∃A c,e= .returned (.slice A (entsR l es).length c)∧w'.ownsRow w.heap.size 45 3 (.slice A (entsR l es).length c) (entsR l es).length ((entsR l es).flatMap entCells)∧Below w.heap.size w w':=by
 obtain⟨W,hW,hB,hV,hO⟩:=qX2 w 202 #[.pointer (some ⟨gb,go,none⟩)] 41 #[.slice none 0 0];have hG:=h.below hB;have HF:=qd (ctrl_Fulls l h.l8 h.bytes);have HW:=qd hW;have HB:=qd hB;have hg:=World.block_lt_of_cell? w _ (hT 0 (by omega));have hl8:=h.l8;unfold viewV;clear hW hB;refine(callsIn_wide (n:=10)).1 ?_
 have h1:1≤10:=by omega
 refine callsIn_of_wp_calm Tryz.func225 rfl trivial rfl ?_;simp only[Tryz.ntmps225,List.size_toArray,List.length_cons,List.length_nil,Nat.reduceAdd,Nat.reduceSub,Array.replicate_succ,Array.replicate_zero,List.push_toArray,List.append_toArray,List.nil_append,List.cons_append];refine wpIn_wide.2 ?_;go_upto_region 2 with fail;rw[←HW.out];have v0:=hV.cell 0;simp only[List.getElem?_toArray,List.getElem?_cons_zero]at v0;have hw:=hG.word;go_wp2_with fail;refine(HF.out _).mono ?_;rintro e w1 ⟨rfl,rfl⟩;go_wp2_with fail;refine(swar_Lanes (fullL l) _).mono ?_;rintro e w1 ⟨rfl,hw1⟩;have hb1:Below W.heap.size W w1:=hw1▸(Below.refl W.heap.size W).alloc (Nat.le_refl _) _;have hL1:Blk w1 W.heap.size 33 #[.int .u64 ((w8 (fullL l):Nat):Int)]:=hw1▸Blk.new W _ _;clear hw1;replace v0:=cell_in hb1 v0;replace hw:=cell_in hb1 hw;go_wp2_with fail;refine(wpIn_wide (n:=10)).1 ?_;have hB1:Below w.heap.size w w1:=below_nx hb1 HB.out;have hlt3:w.heap.size+1<W.heap.size:=hO.lt;have hgl:gb<w.heap.size:=h.lt;have hT1:TzIn w1:=fun i hi=>(hB1.cell (p:=⟨18,tzIdx i,none⟩) hg).trans (hT i hi);have hG1:=hG.below hb1;have hO1:Boxed w1 (w.heap.size+1) 41 (.slice none 0 0):=hO.below hb1 hO.lt;have hbl:=hB1.size;have hbs:=hb1.size;clear h
 refine wpIn_rangeFunc_ownH rfl h1 (gf:=237) (lb:= #[.pointer (some ⟨W.heap.size,0,none⟩)]) rfl trivial (enters_of Tryz.func237 (by kernel_rfl) rfl)
  (lanes_stops (10-1) (by omega) W.heap.size w1.heap.size [w.heap.size+1] (fullL l) (by rw[full_length];exact hl8) (marks_full l).bytes w1 (by omega) (by simp;omega) (Nat.le_refl _) hL1.lt (hL1.cell 0) hT1) keepS_t (keepS_b (Nat.le_refl _)) (Below.refl _ _) (fun _=>rfl)
  (fun pre V=>(∃v,Boxed V (w.heap.size+1) 41 v∧V.ownsRow w1.heap.size 45 3 v pre.length ((atR es pre).flatMap entCells)∧True)∧KeepS w1.heap.size [w.heap.size+1] w1 V)
  (fun _ _ _=>False)
  (OwnFrom.and (Own.from (holdsRow_own w1.heap.size (w.heap.size+1) 41 45 3 List.length (fun pre=>(atR es pre).flatMap entCells) (fun _ _=>True)) _) (ownFrom_keepS (Nat.le_refl _) (Nat.le_refl _)))
  (fun _ _ _ _ _ hs _ _=>hs)
  ⟨⟨_,hO1,⟨by simp[atR],.inl ⟨rfl,rfl⟩⟩,trivial⟩,KeepS.refl _ _ _⟩
  (fun x a' _=>a'={tmps:= #[.agg #[.pointer (some ⟨gb,go,none⟩)],.pointer (some ⟨w.heap.size,0,none⟩),.slice none 0 0,.pointer (some ⟨w.heap.size+1,0,none⟩),.int .i64 (x.val:Int),.pointer (some ⟨w.heap.size,0,none⟩),.pointer (some ⟨gb,go,none⟩),.pointer (some ⟨gb,go,none⟩),.pointer (some ⟨gb,go,none⟩),.int .u64 ((w8 l:Nat):Int),.int .u64 ((w8 (fullL l):Nat):Int),.func (.func 237) #[] #[.pointer (some ⟨W.heap.size,0,none⟩)],.int .i64 (x.val:Int),undef,undef,undef,undef,undef,undef,undef,undef,undef,undef,undef],defers:=[]})
  (fun _ _ _ _ _ _ hs _ _=>hs) ?assign ?body ?done ?stop
 case assign=>
  rintro lp pre x V K hi hK
  gi_wp2
  exact hK _ _ (KeepsFrom.refl _ _) (KeepS.refl _ _ _) hi rfl
 case body=>
  rintro lp pre x a' V hl ⟨r,hr⟩ ⟨⟨v,hOB,hO,-⟩,hKS⟩ rfl hlt;have hx8:x.val<8:=x.isLt;have hgb1:gb<w1.heap.size:=hG1.lt
  have hgn:gb∉[w.heap.size+1]:=by simp;omega
  have hv:=(hKS.cell (p:=⟨w.heap.size,0,none⟩) (by show w.heap.size<_;omega) (by simp)).trans v0;have hGV:GRaw V gb t ahead post go l es:=⟨hG1.len,hG1.l8,hG1.bytes,hG1.e8,hKS.blk hG1.blk hgb1 hgn⟩;obtain⟨A,c,rfl⟩:=own_form hO;have ho:=hOB.cell;have s0:=hGV.at_ x.val 0 hx8 (by omega);have s1:=hGV.at_ x.val 1 hx8 (by omega);have s2:=hGV.at_ x.val 2 hx8 (by omega);rw[Nat.add_zero]at s0
  have hxi:(x.val:Int)<8:=by omega
  have hx0:(0:Int)≤(x.val:Int):=by omega
  have HSn:=qd (atR_snoc es pre x);have hVs:=hKS.size;clear hGV;generalize es.getD x.val ⟨0,0,0⟩=x1 at*;simp only[entCells,List.getElem?_cons_zero,List.getElem?_cons_succ]at s0 s1 s2
  gi_wp2_with fail
  refine region_I (fun(w':World)=>w'.cell? ⟨w.heap.size,0,none⟩=some (.pointer (some ⟨gb,go,none⟩))∧w'.cell? ⟨w.heap.size+1,0,none⟩=some (.slice A pre.length c)∧w'.cell? ⟨gb,go+1+x.val*3,none⟩=some (.int .u64 (x1.key:Int))∧w'.cell? ⟨gb,go+1+x.val*3+1,none⟩=some (.int .u64 (x1.val:Int))∧w'.cell? ⟨gb,go+1+x.val*3+2,none⟩=some (.int .u64 (x1.hash:Int))) [9,10] (by kernel_rfl) (by kernel_rfl) (by rintro⟨_,_,h⟩;exact h) ?_
  try (change wpAnyT _ _ _ _ _ _ _ _ _ (World.drew _))
  have hHeld:=(⟨hv,ho,s0,s1,s2⟩:_∧_∧_∧_∧_);refine vT 0 rfl ?_;refine vW 1 rfl ?_;refine vW 3 rfl ?_;refine nT 2 rfl fun K hK=> ?_;go_simp;refine kO hK ?_;clear hK K;refine vW 4 rfl ?_;refine vW 5 rfl ?_;refine vW 6 rfl ?_;refine vT 7 rfl ?_;refine nT 8 rfl fun K hK=> ?_;go_simp;have hb2:Below V.heap.size V (V.alloc (.cells #[.int .u64 (x1.key:Int),.int .u64 (x1.val:Int),.int .u64 (x1.hash:Int)] 45)).drew:=((Below.refl V.heap.size V).alloc (Nat.le_refl _) _).drew;obtain⟨V2,hV2⟩:∃V2,V2=(V.alloc (.cells #[.int .u64 (x1.key:Int),.int .u64 (x1.val:Int),.int .u64 (x1.hash:Int)] 45)).drew:=⟨_,rfl⟩;have hN2:Blk V2 V.heap.size 45 #[.int .u64 (x1.key:Int),.int .u64 (x1.val:Int),.int .u64 (x1.hash:Int)]:=hV2▸(Blk.new V _ _).drew;have hO2:V2.ownsRow w1.heap.size 45 3 (.slice A pre.length c) pre.length ((atR es pre).flatMap entCells):=own_below hO (hV2▸hb2) (Nat.le_refl _);rw[←hV2]at hb2⊢;clear hV2;have hHeld:=(⟨cell_in hb2 hv,cell_in hb2 ho,cell_in hb2 s0,cell_in hb2 s1,cell_in hb2 s2⟩:_∧_∧_∧_∧_);refine kO hK ?_;clear hK K;refine nT 9 rfl fun K hK=> ?_;refine step_app (by rfl) (by rfl) slty_Ent hO2 (by rfl) (by rfl) (reads_blk (size:=3) (m:=1) hN2 (by rfl)) (by rfl) (by omega) (by have:=hb2.size;have:=hVs;omega) ?_;intro v4 w4 hown4 hgr4;obtain⟨A4,c4,rfl⟩:=own_form hown4;have hox:Boxed w4 (w.heap.size+1) 41 (.slice A pre.length c):=(hgr4.below.block _ (by omega)).trans ((hb2.block _ hOB.lt).trans hOB);have o4:=hox.cell
  have f4:=hox.frozen;have hK4:KeepS w1.heap.size [w.heap.size+1] w1 w4:=keepS_t hKS (keepS_t ((Mod.of_below hb2 _).keepS hVs) (KeepS.of_below hgr4.below));have hKF4:KeepsFrom w1.heap.size V w4:=keepsFrom_app hVs hb2 hO2 hgr4;refine kO hK ?_;clear hK K;refine nT 10 rfl fun K hK=> ?_;go_simp;refine kO hK ?_;clear hK K;refine doneT (by kernel_rfl) ?_ _;have hfin:Boxed (w4.setCell ⟨w.heap.size+1,0,none⟩ (.slice A4 (pre.length+1) c4)) (w.heap.size+1) 41 (.slice A4 (pre.length+1) c4):=hox.set _
  have hne4:(Value.slice A4 (pre.length+1) c4).ownBlock≠some (w.heap.size+1):=fun he=>by
   have:=(hown4.lt _ he).1;omega
  have hown5:=hown4.kept (grownBy_setCell' w4 (w.heap.size+1) (.slice A4 (pre.length+1) c4)) (.inr hne4);have hKF5:=hKF4.trans ((KeepsOthers.setCell w4 ⟨w.heap.size+1,0,none⟩ (.slice A4 (pre.length+1) c4)).from _);have hK5:KeepS w1.heap.size [w.heap.size+1] w1 (w4.setCell ⟨w.heap.size+1,0,none⟩ (.slice A4 (pre.length+1) c4)):=hK4.set_ (.inl (by simp)) _ _;have hKp:KeepS w1.heap.size [w.heap.size+1] V (w4.setCell ⟨w.heap.size+1,0,none⟩ (.slice A4 (pre.length+1) c4)):=(keepS_t ((Mod.of_below hb2 _).keepS hVs) (KeepS.of_below hgr4.below)).set_ (.inl (by simp)) _ _;have HE:=qd (And.intro hKF5 (And.intro hKp (And.intro (And.intro hfin hown5) hK5)));clear hKF5 hKp hfin hown5 hK5 hKF4 hK4 hown4 hgr4 hox
  gi_wp2
  exact⟨HE.out.1,HE.out.2.1,⟨_,HE.out.2.2.1.1,by rw[HSn.out,List.length_append];exact HE.out.2.2.1.2⟩,HE.out.2.2.2⟩
 case done=>
  rintro D ys V hD hys ⟨⟨v,hOB,hO,-⟩,hKS⟩ hKD;obtain⟨A,c,rfl⟩:=own_form hO;have ho:=hOB.cell
  have hlen:ys.length=(entsR l es).length:=by rw[←entsR_of hys];simp[atR]
  rw[entsR_of hys,hlen]at hO;rw[hlen]at hOB ho;have hKm:=(Mod.of_below hB1 [w.heap.size+1]).then hKS.mod;have HOw:=qd hO;clear hO;go_wp2;refine leavesM ⟨by simp,.inl ⟨_,_,rfl,run_takeDeferred hKD, ?_⟩⟩;refine⟨.slice A (entsR l es).length c, ?_,A,c,rfl, ?_, ?_⟩
  ·simp[results,Tryz.f225,go_sem]
  ·exact own_base (ownsRow_putObj HOw.out _ hKD rfl) (by omega)
  ·exact(hKm.below (by simp) (Nat.le_refl _)).trans (belowK_b (w:=w) (Nat.le_refl _) V D _ _ (by omega) hKD rfl rfl)
 case stop=>
  rintro D c pre V hD hS hI;exact hI.elim
end
end Go.Proofs.YthfgacnlojmmfaaGreatDoor
