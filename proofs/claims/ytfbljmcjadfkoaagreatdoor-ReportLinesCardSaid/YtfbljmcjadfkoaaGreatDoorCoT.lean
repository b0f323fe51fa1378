/- A view's Find by its contract. -/
import Derived.Test.YtfbljmcjadfkoaaGreatDoorHeldI
import Derived.Test.YtfbljmcjadfkoaaGreatDoorSqT
import Derived.Test.YtfbljmcjadfkoaaGreatDoorSq
import Derived.Test.YtfbljmcjadfkoaaGreatDoorSqM
import Derived.Test.YtfbljmcjadfkoaaGreatDoorCoA
import Derived.BigRegion
namespace Go.Proofs.YtfbljmcjadfkoaaGreatDoor
set_option maxRecDepth 100000
set_option maxHeartbeats 2000000
open Go.RowKit Go.Shelf AmC Go
variable {l : List Nat} {es : List Ent} {h2 key : Nat}
attribute [local go_sem] Oper.semAt_some
def findR (l:List Nat)(es:List Ent)(key h2:Nat):Option Nat:=(lanesFrom 0 (l.map (eqB h2))).find? fun i=>(es.getD i ⟨0,0,0⟩).key==key
theorem findR_none {ys:List (Fin 8)}(hys:ys.map Fin.val=lanesFrom 0 ((l.map (eqB h2)).map topB))(hp:∀x∈ys,((es.getD x.val ⟨0,0,0⟩).key==key)=false):findR l es key h2=none:=by
 unfold findR;rw[top_marks (marks_eq h2 l)]at hys;rw[←hys,List.find?_eq_none];intro x hx;obtain⟨y,hy,rfl⟩:=List.mem_map.1 hx;rw[hp y hy];simp
theorem findR_some {pre:List (Fin 8)}{x:Fin 8}{r:List Nat}(hys:(pre++[x]).map Fin.val++r=lanesFrom 0 ((l.map (eqB h2)).map topB))(hp:∀x∈pre,((es.getD x.val ⟨0,0,0⟩).key==key)=false)(hx:((es.getD x.val ⟨0,0,0⟩).key==key)=true):findR l es key h2=some x.val:=by
 unfold findR;rw[top_marks (marks_eq h2 l)]at hys
 rw[←hys,List.map_append,List.append_assoc,List.find?_append,List.find?_eq_none.2 (fun y hy=>by
  obtain⟨z,hz,rfl⟩:=List.mem_map.1 hy
  rw[hp z hz];simp)]
 show Option.or none (List.find? _ (x.val::r))=_;rw[List.find?_cons_of_pos (p:=fun i=>(es.getD i ⟨0,0,0⟩).key==key) hx];rfl
theorem leavesM {F:Fence}{n:Nat}{P:Program}{fn:Func}{R:Ending→World→Prop}{a:Act}{w:World}(h:LeavesInM F n P fn a.tmps R a.defers .returning w):calmQ (bodyPostM F n P fn R) .ret a w:=h
theorem view_Find (gb:Nat)(t:TypeId)(pre post:List Value)(go:Nat)(l:List Nat)(es:List Ent)(key hash:Nat)(h64:hash<18446744073709551616)(w:World)(h:GRaw w gb t pre post go l es)(hT:TzIn w):
  Calls Tryz.prog 204 #[viewV ⟨gb,go,none⟩,.int .u64 (key:Int),.int .u64 (hash:Int)] w fun e w'=>e= .returned (.int .i64 (optI (findR l es key (hash % 128))))∧Below w.heap.size w w':=by
 obtain⟨W,hW,hB,hV,hK,hR⟩:=qX3 w 235 #[.pointer (some ⟨gb,go,none⟩)] 72 #[.int .u64 (key:Int)] 3 #[.int .i64 0];have hG:=h.below hB;have H2:=qd (split_H2 hash h64);have HMt:=qd (ctrl_Match l h.l8 h.bytes (hash % 128) (by omega));have HW:=qd hW;have HB:=qd hB;have hg:=World.block_lt_of_cell? w _ (hT 0 (by omega));have hl8:=h.l8;unfold viewV;clear hW h hB;refine(callsIn_wide (n:=10)).1 ?_
 have h1:1≤10:=by omega
 refine callsIn_of_wp_calm Tryz.func204 rfl trivial rfl ?_;simp only[Tryz.ntmps204,List.size_toArray,List.length_cons,List.length_nil,Nat.reduceAdd,Nat.reduceSub,Array.replicate_succ,Array.replicate_zero,List.push_toArray,List.append_toArray,List.nil_append,List.cons_append];refine wpIn_wide.2 ?_;go_upto_region 1 with fail;rw[←HW.out];have v0:=hV.cell 0;simp only[List.getElem?_toArray,List.getElem?_cons_zero]at v0;have hw:=hG.word;refine rT (fun(w':World)=>w'.cell? ⟨w.heap.size,0,none⟩=some (.pointer (some ⟨gb,go,none⟩))∧w'.cell? ⟨gb,go,none⟩=some (.int .u64 ((w8 l:Nat):Int))) [] ?_;have hHeld:=(⟨v0,hw⟩:_∧_);refine vW 0 rfl ?_;refine vT 1 rfl ?_;refine vW 2 rfl ?_;refine vW 3 rfl ?_;refine vT 4 rfl ?_;refine vW 5 rfl ?_;refine nT 6 rfl fun K hK=> ?_;go_simp;refine(H2.out _).mono ?_;rintro e w1 ⟨rfl,rfl⟩;go_wp2_with fail;have hHeld:=(⟨v0,hw⟩:_∧_);refine kO hK ?_;clear hK K;refine nT 7 rfl fun K hK=> ?_;go_simp;refine(HMt.out _).mono ?_;rintro e w1 ⟨rfl,rfl⟩;go_wp2_with fail;have hHeld:=(⟨v0,hw⟩:_∧_);refine kO hK ?_;clear hK K;refine nT 8 rfl fun K hK=> ?_;go_simp;refine(swar_Lanes (l.map (eqB (hash % 128))) _).mono ?_;rintro e w1 ⟨rfl,hw1⟩;have hb1:Below W.heap.size W w1:=hw1▸((Below.refl W.heap.size W).drew).alloc (Nat.le_refl _) _;have hL1:Blk w1 W.heap.size 72 #[.int .u64 ((w8 (l.map (eqB (hash % 128))):Nat):Int)]:=hw1▸Blk.new W.drew _ _;clear hw1;go_wp2_with fail;replace v0:=cell_in hb1 v0;replace hw:=cell_in hb1 hw
 have hHeld:=(⟨v0,hw⟩:_∧_);refine kO hK ?_;clear hK K;refine doneT (by kernel_rfl) ?_ _;go_wp2_with fail;refine(wpIn_wide (n:=10)).1 ?_;have hB1:Below w.heap.size w w1:=below_nx hb1 HB.out;have hlt3:w.heap.size+1+1<W.heap.size:=hR.lt;have hT1:TzIn w1:=fun i hi=>(hB1.cell (p:=⟨19,tzIdx i,none⟩) hg).trans (hT i hi);have hG1:=hG.below hb1;have hK1:=(hK.below hb1 hK.lt).cell 0;have hR1:=hR.below hb1 hR.lt;have hbl:=hB1.size;simp only[List.getElem?_toArray,List.getElem?_cons_zero]at hK1
 refine wpIn_rangeFunc_ownH rfl h1 (gf:=276) (lb:= #[.pointer (some ⟨W.heap.size,0,none⟩)]) rfl trivial (enters_of Tryz.func276 (by kernel_rfl) rfl)
  (lanes_stops (10-1) (by omega) W.heap.size w1.heap.size [] (l.map (eqB (hash % 128))) (by simpa using hl8) (marks_eq _ l).bytes w1 (by omega) (by simp) (Nat.le_refl _) hL1.lt (hL1.cell 0) hT1) keepS_t (keepS_b (Nat.le_refl _)) (Below.refl _ _) (fun _=>rfl)
  (fun pre V=>(∀x∈pre,((es.getD x.val ⟨0,0,0⟩).key==key)=false)∧Below w1.heap.size w1 V)
  (fun c pre V=>(c= .ret∧∃pre' x,pre=pre'++[x]∧(∀y∈pre',((es.getD y.val ⟨0,0,0⟩).key==key)=false)∧((es.getD x.val ⟨0,0,0⟩).key==key)=true∧Boxed V (w.heap.size+1+1) 3 (.int .i64 (x.val:Int)))∧Below w.heap.size w V)
  (OwnFrom.and (fun _ _ _ _ hs _ _=>hs) (ownFrom_below (Nat.le_refl _) (Nat.le_refl _)))
  (fun c=>OwnFrom.and (fun _ X Y row hs hg hr=>by
   obtain⟨h0,pre',x,h2,h3,h4,h5⟩:=hs
   exact⟨h0,pre',x,h2,h3,h4,boxed_own (w.heap.size+1+1) 3 (fun(_:Unit)=>Value.int .i64 (x.val:Int)) () X Y row h5 hg (fun r e=>(hr r e).2)⟩) (ownFrom_below (Nat.le_refl _) (by omega)))
  ⟨by simp,Below.refl _ _⟩
  (fun x a' _=>a'={tmps:= #[.agg #[.pointer (some ⟨gb,go,none⟩)],.int .u64 (key:Int),.int .u64 (hash:Int),.pointer (some ⟨w.heap.size,0,none⟩),.pointer (some ⟨w.heap.size+1,0,none⟩),undef,.pointer (some ⟨w.heap.size+1+1,0,none⟩),.int .i64 (x.val:Int),.pointer (some ⟨w.heap.size,0,none⟩),.pointer (some ⟨gb,go,none⟩),.pointer (some ⟨gb,go,none⟩),.pointer (some ⟨gb,go,none⟩),.int .u64 ((w8 l:Nat):Int),.int .u64 (hash:Int),.int .u8 ((hash:Int) % 128),.int .u64 ((w8 (List.map (eqB (hash % 128)) l):Nat):Int),.func (.func 276) #[] #[.pointer (some ⟨W.heap.size,0,none⟩)],.int .i64 (x.val:Int),undef,undef,undef,undef,undef,undef,undef,undef,undef,undef,undef],defers:=[]})
  (fun _ _ _ _ _ _ hs _ _=>hs) ?assign ?body ?done ?stop
 case assign=>
  rintro lp pre x V K hi hK
  gi_wp2
  exact hK _ _ (KeepsFrom.refl _ _) (KeepS.refl _ _ _) hi rfl
 case body=>
  rintro lp pre x a' V hl ⟨r,hr⟩ ⟨hp,hV1⟩ rfl hlt;have hx8:x.val<8:=x.isLt;have hv:=cell_in hV1 v0;have hk:=cell_in hV1 hK1;have s0:=(hG1.below hV1).at_ x.val 0 hx8 (by omega);rw[Nat.add_zero]at s0;simp only[entCells,List.getElem?_cons_zero]at s0
  have hxi:(x.val:Int)<8:=by omega
  have hx0:(0:Int)≤(x.val:Int):=by omega
  have HPr:=qd hp
  have HO:(((es.getD x.val ⟨0,0,0⟩).key:Int)==(key:Int))=((es.getD x.val ⟨0,0,0⟩).key==key):=by rw[Bool.eq_iff_iff,beq_iff_eq,beq_iff_eq];omega
  generalize hkx:(es.getD x.val ⟨0,0,0⟩).key=kx at*;have HKx:=qd hkx;clear hp hkx
  gi_wp2_with fail
  refine region_I (fun(w':World)=>w'.cell? ⟨w.heap.size,0,none⟩=some (.pointer (some ⟨gb,go,none⟩))∧w'.cell? ⟨w.heap.size+1,0,none⟩=some (.int .u64 (key:Int))∧w'.cell? ⟨gb,go+1+x.val*3,none⟩=some (.int .u64 (kx:Int))) [] (by kernel_rfl) (by kernel_rfl) (by rintro⟨_,_,h⟩;exact h) ?_
  try (change wpAnyT _ _ _ _ _ _ _ _ _ (World.drew _))
  have hHeld:=(⟨hv,hk,s0⟩:_∧_∧_);refine vW 0 rfl ?_;refine vT 1 rfl ?_;refine vW 2 rfl ?_;refine vW 3 rfl ?_;refine vW 4 rfl ?_;refine vW 5 rfl ?_;refine vW 6 rfl ?_;refine vT 7 rfl ?_;refine vT 8 rfl ?_;refine vW 9 rfl ?_;refine doneT (by kernel_rfl) ?_ _
  cases hb:(kx==key)with
  |false=>
   rw[hb]at HO
   gi_wp2
   exact⟨(KeepsOthers.drew _).from _,KeepS.drew _ _ _,fun y hy=>(List.mem_append.1 hy).elim (HPr.out y) (fun e=>by simp at e;subst e;rw[HKx.out];exact hb),hV1.drew⟩
  |true=>
   rw[hb]at HO;have cR:=(hR1.below hV1 hR1.lt).cell 0;have fR:=(hR1.below hV1 hR1.lt).frozen 0;simp only[List.getElem?_toArray,List.getElem?_cons_zero]at cR
   gi_wp2
   have hBx:Boxed V (w.heap.size+1+1) 3 (.int .i64 0):=hR1.below hV1 hR1.lt;exact⟨((KeepsOthers.drew V).trans (KeepsOthers.setCell V.drew ⟨w.heap.size+1+1,0,none⟩ (.int .i64 (x.val:Int)))).from _,⟨rfl,pre,x,rfl,HPr.out,by rw[HKx.out];exact hb,(show Boxed V.drew (w.heap.size+1+1) 3 (.int .i64 0)from hBx).set _⟩,((hB1.trans (hV1.mono hB1.size)).drew).setCell (p:=⟨w.heap.size+1+1,0,none⟩) (by simp;omega) _⟩
 case done=>
  rintro D ys V hD hys ⟨hp,hV1⟩ hKD;have cR:=(hR1.below hV1 hR1.lt).cell 0;have fR:=(hR1.below hV1 hR1.lt).frozen 0;simp only[List.getElem?_toArray,List.getElem?_cons_zero]at cR;have hBx:Boxed V (w.heap.size+1+1) 3 (.int .i64 0):=hR1.below hV1 hR1.lt;go_wp2;have hK':=(KeepsOthers.setCell V ⟨w.heap.size+1+1,0,none⟩ (.int .i64 (-1))).same D _ hKD rfl;refine leavesM ⟨by simp,.inl ⟨_,_,rfl,run_takeDeferred hK', ?_⟩⟩;have hc5:=cell_kept (hBx.set (.int .i64 (-1))).cell (grownBy_putObj' _ D (.deferred none)) (fun r e=>by cases e;exact⟨_,hK',rfl⟩);refine⟨.int .i64 (-1), ?_,by rw[findR_none hys hp];rfl,((hB1.trans (hV1.mono hB1.size)).setCell (p:=⟨w.heap.size+1+1,0,none⟩) (by simp;omega) _).trans (belowK_b (w:=w) (Nat.le_refl _) _ D _ _ (by omega) hK' rfl rfl)⟩;simp[results,Tryz.f204,go_sem,hc5]
 case stop=>
  rintro D c pre V hD ⟨r,hr⟩ ⟨⟨rfl,pre',x,he,hp,hx,bR1⟩,hV1⟩ hKD
  gi_wp2
  refine leavesM ⟨by simp,.inl ⟨_,_,rfl,run_takeDeferred hKD, ?_⟩⟩;have hc5:=cell_kept bR1.cell (grownBy_putObj' _ D (.deferred none)) (fun r e=>by cases e;exact⟨_,hKD,rfl⟩);refine⟨.int .i64 (x.val:Int), ?_,by rw[findR_some (by rw[he]at hr;exact hr) hp hx];rfl,hV1.trans (belowK_b (w:=w) (Nat.le_refl _) V D _ _ (by omega) hKD rfl rfl)⟩;simp[results,Tryz.f204,go_sem,hc5]
end Go.Proofs.YtfbljmcjadfkoaaGreatDoor

/-! A view's Entries by its contract. -/
namespace Go.Proofs.YtfbljmcjadfkoaaGreatDoor
set_option maxRecDepth 100000
set_option maxHeartbeats 2000000
open Go.RowKit Go.Shelf AmC Go
attribute [local go_sem] Oper.semAt_some
theorem own_base {w:World}{b b' e size n:Nat}{v:Value}{xs:List Value}(h:w.ownsRow b e size v n xs)(hb:b'≤b):w.ownsRow b' e size v n xs:=
 ⟨h.1,h.2.imp id fun⟨g,cap,cur,h1,h2,h3⟩=>⟨g,cap,cur,h1,Nat.le_trans hb h2,h3⟩⟩
theorem info_Ent:(Tryz.prog.info? 199).map (fun i=>(i.zero,i.size,i.bytes))=some (some (.agg #[.int .u64 0,.int .u64 0,.int .u64 0]),3,24):=by kernel_rfl
theorem keepsFrom_app {B base n:Nat}{V V2 w4:World}{e:TypeId}{size:Nat}{v v4:Value}{xs:List Value}(_:B≤V.heap.size)(hb:Below V.heap.size V V2)(ho:V2.ownsRow base e size v n xs)(hg:Grew V2 base v w4 v4):KeepsFrom B V w4:=by
 have h1:KeepsOthers V V2:=⟨hb.size,fun k o hk _=>(hb.block k (Array.getElem?_eq_some_iff.1 hk).1).trans hk⟩
 have h2:KeepsOthers V2 w4:=KeepsOthers.of_grownBy hg.by_ (fun j o hj ho'=>by
  rcases ho.2 with⟨rfl,_⟩|⟨g,cap,cur,rfl,_,hh,_⟩
  ·simp[Value.ownBlock]at hj
  ·have:g=j:=by simpa[Value.ownBlock]using hj
   subst this;rw[hh]at ho'
   cases ho';rfl)
 exact(h1.trans h2).from B
theorem slty_Ent:SlTy Tryz.prog 363 199 3 24:=slTy Tryz.underlying363 info_Ent rfl (by decide) (by decide)
def entsR (l:List Nat)(es:List Ent):List Ent:=(lanesFrom 0 (fullL l)).map fun i=>es.getD i ⟨0,0,0⟩
def atR (es:List Ent)(pre:List (Fin 8)):List Ent:=pre.map fun x=>es.getD x.val ⟨0,0,0⟩
theorem marks_full (l:List Nat):Marks (fullL l):=marks_top _
theorem full_length (l:List Nat):(fullL l).length=l.length:=by simp[fullL,notL]
theorem entsR_of {l:List Nat}{es:List Ent}{ys:List (Fin 8)}(hys:ys.map Fin.val=lanesFrom 0 ((fullL l).map topB)):atR es ys=entsR l es:=by
 rw[top_marks (marks_full l)]at hys;unfold entsR atR;rw[←hys,List.map_map];rfl
theorem atR_snoc (es:List Ent)(pre:List (Fin 8))(x:Fin 8):(atR es (pre++[x])).flatMap entCells=(atR es pre).flatMap entCells++entCells (es.getD x.val ⟨0,0,0⟩):=by simp[atR]
theorem view_Entries (gb:Nat)(t:TypeId)(ahead post:List Value)(go:Nat)(l:List Nat)(es:List Ent)(w:World)(h:GRaw w gb t ahead post go l es)(hT:TzIn w):
  Calls Tryz.prog 291 #[viewV ⟨gb,go,none⟩] w fun e w'=>∃A c,e= .returned (.slice A (entsR l es).length c)∧w'.ownsRow w.heap.size 199 3 (.slice A (entsR l es).length c) (entsR l es).length ((entsR l es).flatMap entCells)∧Below w.heap.size w w':=by
 obtain⟨W,hW,hB,hV,hO⟩:=qX2 w 235 #[.pointer (some ⟨gb,go,none⟩)] 363 #[.slice none 0 0];have hG:=h.below hB;have HF:=qd (ctrl_Fulls l h.l8 h.bytes);have HW:=qd hW;have HB:=qd hB;have hg:=World.block_lt_of_cell? w _ (hT 0 (by omega));have hl8:=h.l8;unfold viewV;clear hW hB;refine(callsIn_wide (n:=10)).1 ?_
 have h1:1≤10:=by omega
 refine callsIn_of_wp_calm Tryz.func291 rfl trivial rfl ?_;simp only[Tryz.ntmps291,List.size_toArray,List.length_cons,List.length_nil,Nat.reduceAdd,Nat.reduceSub,Array.replicate_succ,Array.replicate_zero,List.push_toArray,List.append_toArray,List.nil_append,List.cons_append];refine wpIn_wide.2 ?_;go_upto_region 2 with fail;rw[←HW.out];have v0:=hV.cell 0;simp only[List.getElem?_toArray,List.getElem?_cons_zero]at v0;have hw:=hG.word;go_wp2_with fail;refine(HF.out _).mono ?_;rintro e w1 ⟨rfl,rfl⟩;go_wp2_with fail;refine(swar_Lanes (fullL l) _).mono ?_;rintro e w1 ⟨rfl,hw1⟩;have hb1:Below W.heap.size W w1:=hw1▸(Below.refl W.heap.size W).alloc (Nat.le_refl _) _;have hL1:Blk w1 W.heap.size 72 #[.int .u64 ((w8 (fullL l):Nat):Int)]:=hw1▸Blk.new W _ _;clear hw1;replace v0:=cell_in hb1 v0;replace hw:=cell_in hb1 hw;go_wp2_with fail;refine(wpIn_wide (n:=10)).1 ?_;have hB1:Below w.heap.size w w1:=below_nx hb1 HB.out;have hlt3:w.heap.size+1<W.heap.size:=hO.lt;have hgl:gb<w.heap.size:=h.lt;have hT1:TzIn w1:=fun i hi=>(hB1.cell (p:=⟨19,tzIdx i,none⟩) hg).trans (hT i hi);have hG1:=hG.below hb1;have hO1:Boxed w1 (w.heap.size+1) 363 (.slice none 0 0):=hO.below hb1 hO.lt;have hbl:=hB1.size;have hbs:=hb1.size;clear h
 refine wpIn_rangeFunc_ownH rfl h1 (gf:=276) (lb:= #[.pointer (some ⟨W.heap.size,0,none⟩)]) rfl trivial (enters_of Tryz.func276 (by kernel_rfl) rfl)
  (lanes_stops (10-1) (by omega) W.heap.size w1.heap.size [w.heap.size+1] (fullL l) (by rw[full_length];exact hl8) (marks_full l).bytes w1 (by omega) (by simp;omega) (Nat.le_refl _) hL1.lt (hL1.cell 0) hT1) keepS_t (keepS_b (Nat.le_refl _)) (Below.refl _ _) (fun _=>rfl)
  (fun pre V=>(∃v,Boxed V (w.heap.size+1) 363 v∧V.ownsRow w1.heap.size 199 3 v pre.length ((atR es pre).flatMap entCells)∧True)∧KeepS w1.heap.size [w.heap.size+1] w1 V)
  (fun _ _ _=>False)
  (OwnFrom.and (Own.from (holdsRow_own w1.heap.size (w.heap.size+1) 363 199 3 List.length (fun pre=>(atR es pre).flatMap entCells) (fun _ _=>True)) _) (ownFrom_keepS (Nat.le_refl _) (Nat.le_refl _)))
  (fun _ _ _ _ _ hs _ _=>hs)
  ⟨⟨_,hO1,⟨by simp[atR],.inl ⟨rfl,rfl⟩⟩,trivial⟩,KeepS.refl _ _ _⟩
  (fun x a' _=>a'={tmps:= #[.agg #[.pointer (some ⟨gb,go,none⟩)],.pointer (some ⟨w.heap.size,0,none⟩),.slice none 0 0,.pointer (some ⟨w.heap.size+1,0,none⟩),.int .i64 (x.val:Int),.pointer (some ⟨w.heap.size,0,none⟩),.pointer (some ⟨gb,go,none⟩),.pointer (some ⟨gb,go,none⟩),.pointer (some ⟨gb,go,none⟩),.int .u64 ((w8 l:Nat):Int),.int .u64 ((w8 (fullL l):Nat):Int),.func (.func 276) #[] #[.pointer (some ⟨W.heap.size,0,none⟩)],.int .i64 (x.val:Int),undef,undef,undef,undef,undef,undef,undef,undef,undef,undef,undef],defers:=[]})
  (fun _ _ _ _ _ _ hs _ _=>hs) ?assign ?body ?done ?stop
 case assign=>
  rintro lp pre x V K hi hK
  gi_wp2
  exact hK _ _ (KeepsFrom.refl _ _) (KeepS.refl _ _ _) hi rfl
 case body=>
  rintro lp pre x a' V hl ⟨r,hr⟩ ⟨⟨v,hOB,hO,-⟩,hKS⟩ rfl hlt;have hx8:x.val<8:=x.isLt;have hgb1:gb<w1.heap.size:=hG1.lt
  have hgn:gb∉[w.heap.size+1]:=by simp;omega
  have hv:=(hKS.cell (p:=⟨w.heap.size,0,none⟩) (by show w.heap.size<_;omega) (by simp)).trans v0;have hGV:GRaw V gb t ahead post go l es:=⟨hG1.len,hG1.l8,hG1.bytes,hG1.e8,hKS.blk hG1.blk hgb1 hgn⟩;obtain⟨A,c,rfl⟩:=own_form hO;have ho:=hOB.cell;have s0:=hGV.at_ x.val 0 hx8 (by omega);have s1:=hGV.at_ x.val 1 hx8 (by omega);have s2:=hGV.at_ x.val 2 hx8 (by omega);rw[Nat.add_zero]at s0
  have hxi:(x.val:Int)<8:=by omega
  have hx0:(0:Int)≤(x.val:Int):=by omega
  have HSn:=qd (atR_snoc es pre x);have hVs:=hKS.size;clear hGV;generalize es.getD x.val ⟨0,0,0⟩=x1 at*;simp only[entCells,List.getElem?_cons_zero,List.getElem?_cons_succ]at s0 s1 s2
  gi_wp2_with fail
  refine region_I (fun(w':World)=>w'.cell? ⟨w.heap.size,0,none⟩=some (.pointer (some ⟨gb,go,none⟩))∧w'.cell? ⟨w.heap.size+1,0,none⟩=some (.slice A pre.length c)∧w'.cell? ⟨gb,go+1+x.val*3,none⟩=some (.int .u64 (x1.key:Int))∧w'.cell? ⟨gb,go+1+x.val*3+1,none⟩=some (.int .u64 (x1.val:Int))∧w'.cell? ⟨gb,go+1+x.val*3+2,none⟩=some (.int .u64 (x1.hash:Int))) [9,10] (by kernel_rfl) (by kernel_rfl) (by rintro⟨_,_,h⟩;exact h) ?_
  try (change wpAnyT _ _ _ _ _ _ _ _ _ (World.drew _))
  have hHeld:=(⟨hv,ho,s0,s1,s2⟩:_∧_∧_∧_∧_);refine vT 0 rfl ?_;refine vW 1 rfl ?_;refine vW 3 rfl ?_;refine nT 2 rfl fun K hK=> ?_;go_simp;refine kO hK ?_;clear hK K;refine vW 4 rfl ?_;refine vW 5 rfl ?_;refine vW 6 rfl ?_;refine vT 7 rfl ?_;refine nT 8 rfl fun K hK=> ?_;go_simp;have hb2:Below V.heap.size V (V.alloc (.cells #[.int .u64 (x1.key:Int),.int .u64 (x1.val:Int),.int .u64 (x1.hash:Int)] 199)).drew:=((Below.refl V.heap.size V).alloc (Nat.le_refl _) _).drew;obtain⟨V2,hV2⟩:∃V2,V2=(V.alloc (.cells #[.int .u64 (x1.key:Int),.int .u64 (x1.val:Int),.int .u64 (x1.hash:Int)] 199)).drew:=⟨_,rfl⟩;have hN2:Blk V2 V.heap.size 199 #[.int .u64 (x1.key:Int),.int .u64 (x1.val:Int),.int .u64 (x1.hash:Int)]:=hV2▸(Blk.new V _ _).drew;have hO2:V2.ownsRow w1.heap.size 199 3 (.slice A pre.length c) pre.length ((atR es pre).flatMap entCells):=own_below hO (hV2▸hb2) (Nat.le_refl _);rw[←hV2]at hb2⊢;clear hV2;have hHeld:=(⟨cell_in hb2 hv,cell_in hb2 ho,cell_in hb2 s0,cell_in hb2 s1,cell_in hb2 s2⟩:_∧_∧_∧_∧_);refine kO hK ?_;clear hK K;refine nT 9 rfl fun K hK=> ?_;refine step_app (by rfl) (by rfl) slty_Ent hO2 (by rfl) (by rfl) (reads_blk (size:=3) (m:=1) hN2 (by rfl)) (by rfl) (by omega) (by have:=hb2.size;have:=hVs;omega) ?_;intro v4 w4 hown4 hgr4;obtain⟨A4,c4,rfl⟩:=own_form hown4;have hox:Boxed w4 (w.heap.size+1) 363 (.slice A pre.length c):=(hgr4.below.block _ (by omega)).trans ((hb2.block _ hOB.lt).trans hOB);have o4:=hox.cell
  have f4:=hox.frozen;have hK4:KeepS w1.heap.size [w.heap.size+1] w1 w4:=keepS_t hKS (keepS_t ((Mod.of_below hb2 _).keepS hVs) (KeepS.of_below hgr4.below));have hKF4:KeepsFrom w1.heap.size V w4:=keepsFrom_app hVs hb2 hO2 hgr4;refine kO hK ?_;clear hK K;refine nT 10 rfl fun K hK=> ?_;go_simp;refine kO hK ?_;clear hK K;refine doneT (by kernel_rfl) ?_ _;have hfin:Boxed (w4.setCell ⟨w.heap.size+1,0,none⟩ (.slice A4 (pre.length+1) c4)) (w.heap.size+1) 363 (.slice A4 (pre.length+1) c4):=hox.set _
  have hne4:(Value.slice A4 (pre.length+1) c4).ownBlock≠some (w.heap.size+1):=fun he=>by
   have:=(hown4.lt _ he).1;omega
  have hown5:=hown4.kept (grownBy_setCell' w4 (w.heap.size+1) (.slice A4 (pre.length+1) c4)) (.inr hne4);have hKF5:=hKF4.trans ((KeepsOthers.setCell w4 ⟨w.heap.size+1,0,none⟩ (.slice A4 (pre.length+1) c4)).from _);have hK5:KeepS w1.heap.size [w.heap.size+1] w1 (w4.setCell ⟨w.heap.size+1,0,none⟩ (.slice A4 (pre.length+1) c4)):=hK4.set_ (.inl (by simp)) _ _;have hKp:KeepS w1.heap.size [w.heap.size+1] V (w4.setCell ⟨w.heap.size+1,0,none⟩ (.slice A4 (pre.length+1) c4)):=(keepS_t ((Mod.of_below hb2 _).keepS hVs) (KeepS.of_below hgr4.below)).set_ (.inl (by simp)) _ _;have HE:=qd (And.intro hKF5 (And.intro hKp (And.intro (And.intro hfin hown5) hK5)));clear hKF5 hKp hfin hown5 hK5 hKF4 hK4 hown4 hgr4 hox
  gi_wp2
  exact⟨HE.out.1,HE.out.2.1,⟨_,HE.out.2.2.1.1,by rw[HSn.out,List.length_append];exact HE.out.2.2.1.2⟩,HE.out.2.2.2⟩
 case done=>
  rintro D ys V hD hys ⟨⟨v,hOB,hO,-⟩,hKS⟩ hKD;obtain⟨A,c,rfl⟩:=own_form hO;have ho:=hOB.cell
  have hlen:ys.length=(entsR l es).length:=by rw[←entsR_of hys];simp[atR]
  rw[entsR_of hys,hlen]at hO;rw[hlen]at hOB ho;have hKm:=(Mod.of_below hB1 [w.heap.size+1]).then hKS.mod;have HOw:=qd hO;clear hO;go_wp2;refine leavesM ⟨by simp,.inl ⟨_,_,rfl,run_takeDeferred hKD, ?_⟩⟩;refine⟨.slice A (entsR l es).length c, ?_,A,c,rfl, ?_, ?_⟩
  ·simp[results,Tryz.f291,go_sem]
  ·exact own_base (ownsRow_putObj HOw.out _ hKD rfl) (by omega)
  ·exact(hKm.below (by simp) (Nat.le_refl _)).trans (belowK_b (w:=w) (Nat.le_refl _) V D _ _ (by omega) hKD rfl rfl)
 case stop=>
  rintro D c pre V hD hS hI;exact hI.elim
end Go.Proofs.YtfbljmcjadfkoaaGreatDoor

/-! A group as slots and as bytes: what the lanes tell of the slots. No program in sight. -/
namespace Go.Proofs.YtfbljmcjadfkoaaGreatDoor.AmC
set_option maxRecDepth 100000
set_option maxHeartbeats 2000000
open Go.RowKit Go.Shelf AmC Go
def Slot.ent:Slot→Ent
 | .full e=>e
 |_=>⟨0,0,0⟩
theorem eqB_128 (h b:Nat):eqB h b=128↔b=h:=by unfold eqB;split<;>simp_all
theorem byte_key (x:Slot)(h:Nat)(hh:h<128):x.byte=h↔∃e,x= .full e∧e.hash % 128=h:=by
 cases x with
 |empty=>simp[Slot.byte];omega
 |tomb=>simp[Slot.byte];omega
 |full e=>simp[Slot.byte]
theorem lanes_find (key hash:Nat)(f:Nat→Ent):∀(G:Grp) (s:Nat),(∀k x,G[k]?=some x→f (s+k)=x.ent)→
  (lanesFrom s (G.map fun x=>eqB (hash % 128) x.byte)).find? (fun i=>(f i).key==key)=(findG G key hash).map (s+·)
 | [],_,_=>rfl
 |x::G,s,hf=>by
  have ih:=lanes_find key hash f G (s+1) (fun k y hy=>by have:=hf (k+1) y (by simpa using hy);rwa [show s+(k+1)=s+1+k by omega]at this);have h0:f s=x.ent:=hf 0 x rfl
  have hm:(findG G key hash).map (s+1+·)=((findG G key hash).map (·+1)).map (s+·):=by
   cases findG G key hash with
   |none=>rfl
   |some k=>simp;omega
  rw[List.map_cons,lanesFrom];unfold findG at ih hm⊢;rw[List.findIdx?_cons];by_cases hx:x.byte=hash % 128
  ·obtain⟨e,rfl,he⟩:=(byte_key x _ (by omega)).1 hx;rw[if_pos ((eqB_128 _ _).2 hx),List.find?_cons,h0];by_cases hk:e.key=key
   ·have:Slot.isKey key hash (.full e)=true:=by simp[Slot.isKey,he,hk]
    rw[this];simp[Slot.ent,hk]
   ·have:Slot.isKey key hash (.full e)=false:=by simp[Slot.isKey,hk]
    rw[this]
    have h1:((Slot.ent (.full e)).key==key)=false:=by simpa[Slot.ent]using hk
    rw[h1];simp only[Bool.false_eq_true,if_false];rw[ih,hm]
  ·have:Slot.isKey key hash x=false:=by
    cases x with
    |empty=>rfl
    |tomb=>rfl
    |full e=>simp[Slot.byte]at hx;simp[Slot.isKey,hx]
   rw[if_neg (fun h=>hx ((eqB_128 _ _).1 h)),this,ih,hm];simp
theorem free_lane (x:Slot):topB x.byte=128↔x.isFull=false:=by
 cases x with
 |empty=>simp[Slot.byte,topB,Slot.isFull]
 |tomb=>simp[Slot.byte,topB,Slot.isFull]
 |full e=>
  have:=Nat.mod_lt e.hash (show 0<128 by omega)
  have h1:topB (e.hash % 128)=0:=by unfold topB;rw[if_pos this]
  show topB (e.hash % 128)=128↔_;rw[h1];simp[Slot.isFull]
theorem first_free (G:Grp):firstM ((G.map Slot.byte).map topB)=freeG G:=by
 unfold firstM freeG;rw[List.map_map,List.findIdx?_map];congr 1;funext x;rw[Bool.eq_iff_iff];simp[free_lane]
theorem any_open (G:Grp):(G.map Slot.byte).any (·==128)=openG G:=by
 unfold openG;rw[List.any_map];congr 1;funext x
 cases x with
 |empty=>rfl
 |tomb=>rfl
 |full e=>simp[Slot.byte,Slot.isEmpty];omega
theorem lanes_ents (f:Nat→Ent):∀(G:Grp) (s:Nat),(∀k x,G[k]?=some x→f (s+k)=x.ent)→(lanesFrom s (G.map fun x=>topB (255-x.byte))).map f=entsG G
 | [],_,_=>rfl
 |x::G,s,hf=>by
  have ih:=lanes_ents f G (s+1) (fun k y hy=>by have:=hf (k+1) y (by simpa using hy);rwa [show s+(k+1)=s+1+k by omega]at this);have h0:f s=x.ent:=hf 0 x rfl
  have hg:entsG (x::G)=x.ents++entsG G:=by simp[entsG]
  rw[List.map_cons,lanesFrom,hg]
  cases x with
  |empty=>rw[if_neg (by simp[Slot.byte,topB]),ih];rfl
  |tomb=>rw[if_neg (by simp[Slot.byte,topB]),ih];rfl
  |full e=>
   have h1:topB (255-e.hash % 128)=128:=by unfold topB;rw[if_neg (by omega)]
   rw[if_pos (show topB (255-(Slot.full e).byte)=128 from h1),List.map_cons,ih,h0];rfl
theorem bytes_set (G:Grp)(i:Nat)(x:Slot):(G.set i x).map Slot.byte=(G.map Slot.byte).set i x.byte:=List.map_set
theorem ents_set_slot (G:Grp)(i:Nat)(x:Slot):(G.set i x).map Slot.ent=(G.map Slot.ent).set i x.ent:=List.map_set
theorem ent_getD (G:Grp)(i:Nat):(G.map Slot.ent).getD i ⟨0,0,0⟩=(G.getD i .empty).ent:=by
 rw[List.getD_eq_getElem?_getD,List.getD_eq_getElem?_getD,List.getElem?_map]
 cases G[i]?<;>rfl
theorem byte_getD (G:Grp)(i:Nat)(hi:i<G.length):(G.map Slot.byte).getD i 0=(G.getD i .empty).byte:=by
 rw[List.getD_eq_getElem?_getD,List.getD_eq_getElem?_getD,List.getElem?_map,List.getElem?_eq_getElem hi];rfl
theorem full_byte (x:Slot):x.byte<128↔x.isFull=true:=by
 cases x with
 |empty=>simp[Slot.byte,Slot.isFull]
 |tomb=>simp[Slot.byte,Slot.isFull]
 |full e=>simp[Slot.byte,Slot.isFull];omega
theorem tomb_byte (x:Slot)(h:x.isFull=false):(x.byte==254)=x.isTomb:=by
 cases x with
 |empty=>rfl
 |tomb=>rfl
 |full e=>cases h
end Go.Proofs.YtfbljmcjadfkoaaGreatDoor.AmC

/-! A group of slots in memory: its view's functions, told of slots. -/
namespace Go.Proofs.YtfbljmcjadfkoaaGreatDoor
set_option maxRecDepth 100000
set_option maxHeartbeats 2000000
open Go.RowKit Go.Shelf AmC Go
def GAt (w:World)(gb:Nat)(t:TypeId)(pre post:List Value)(go:Nat)(G:Grp):Prop:=GRaw w gb t pre post go (G.map Slot.byte) (G.map Slot.ent)
section
variable {w w' : World} {gb go : Nat} {t : TypeId} {pre post : List Value} {G : Grp}
theorem GAt.len8 (h:GAt w gb t pre post go G):G.length=8:=by have:=h.l8;simpa using this
theorem GAt.lt (h:GAt w gb t pre post go G):gb<w.heap.size:=h.blk.lt
theorem GAt.mod {S:List Nat}(h:GAt w gb t pre post go G)(hm:Mod S w w')(hg:gb∉S):GAt w' gb t pre post go G:=GRaw.mod h hm hg
instance {w w':World}{gb:Nat}{t:TypeId}{pre post:List Value}{go:Nat}{G:Grp}:Md (GAt w gb t pre post go G) w w' (GAt w' gb t pre post go G) (fun S=>gb∉S):=⟨fun h hm hs=>GAt.mod h hm hs⟩
theorem GAt.below (h:GAt w gb t pre post go G)(hb:Below w.heap.size w w'):GAt w' gb t pre post go G:=GRaw.below h hb
theorem GAt.keep {n₀:Nat}{S:List Nat}(h:GAt w gb t pre post go G)(hm:KeepS n₀ S w w')(hn:gb<n₀)(hg:gb∉S):GAt w' gb t pre post go G:=⟨h.len,h.l8,h.bytes,h.e8,hm.blk h.blk hn hg⟩
end
section
variable (gb : Nat) (t : TypeId) (pre post : List Value) (go : Nat) (G : Grp) (w : World) (h : GAt w gb t pre post go G)
include h
theorem lane_lt (i:Nat)(hi:i<8):(G.map Slot.byte).getD i 0<128↔(G.getD i .empty).isFull=true:=by
 rw[byte_getD G i (by rw[h.len8];exact hi),full_byte]
theorem grp_Find (key hash:Nat)(h64:hash<18446744073709551616)(hT:TzIn w):
  Calls Tryz.prog 204 #[viewV ⟨gb,go,none⟩,.int .u64 (key:Int),.int .u64 (hash:Int)] w fun e w'=>e= .returned (.int .i64 (optI (findG G key hash)))∧Below w.heap.size w w':=by
 have:=view_Find gb t pre post go _ _ key hash h64 w h hT;unfold findR at this;rw[List.map_map]at this
 have he:=lanes_find key hash (fun i=>(G.map Slot.ent).getD i ⟨0,0,0⟩) G 0 (fun k x hk=>by
  rw[Nat.zero_add,ent_getD,List.getD_eq_getElem?_getD,hk];rfl)
 have hm:(findG G key hash).map (0+·)=findG G key hash:=by cases findG G key hash<;>simp
 rw[hm]at he;rw[show(lanesFrom 0 (List.map (eqB (hash % 128)∘Slot.byte) G))=lanesFrom 0 (G.map fun x=>eqB (hash % 128) x.byte)from rfl,he]at this;exact this
theorem grp_Free (hT:TzIn w):Calls Tryz.prog 203 #[viewV ⟨gb,go,none⟩] w fun e w'=>e= .returned (.int .i64 (optI (freeG G)))∧Below w.heap.size w w':=by
 have:=view_Free gb t pre post go _ _ w h hT
 rwa [first_free]at this
theorem grp_Open:Calls Tryz.prog 205 #[viewV ⟨gb,go,none⟩] w fun e w'=>e= .returned (.bool (openG G))∧Below w.heap.size w w':=by
 have:=view_Open gb t pre post go _ _ w h
 rwa [any_open]at this
theorem grp_At_full (i:Nat)(hi:i<8)(e:Ent)(he:G.getD i .empty= .full e):
  Calls Tryz.prog 206 #[viewV ⟨gb,go,none⟩,.int .i64 (i:Int)] w fun x w'=>x= .returned (.tuple #[entV e,.bool true])∧Below w.heap.size w w':=by
 have:=view_At_full gb t pre post go _ _ i hi w h ((lane_lt gb t pre post go G w h i hi).2 (by rw[he];rfl))
 rwa [ent_getD,he]at this
theorem grp_At_no (i:Nat)(hi:i<8)(he:(G.getD i .empty).isFull=false)(E:Nat→Addr)(hE:ErrAt E w 5):
  Calls Tryz.prog 206 #[viewV ⟨gb,go,none⟩,.int .i64 (i:Int)] w fun x w'=>x= .returned (.tuple #[entV ⟨0,0,0⟩,.bool false])∧Below w.heap.size w w':=
 view_At_no gb t pre post go _ _ i hi w h (fun hl=>by rw[(lane_lt gb t pre post go G w h i hi).1 hl]at he;cases he) E hE
theorem grp_Put (i:Nat)(hi:i<8)(e:Ent)(h64:e.hash<18446744073709551616)(he:(G.getD i .empty).isFull=false):
  Calls Tryz.prog 209 #[viewV ⟨gb,go,none⟩,.int .i64 (i:Int),entV e] w fun x w'=>x= .returned (.tuple #[.bool (G.getD i .empty).isTomb,.nilIface])∧GAt w' gb t pre post go (G.set i (.full e))∧Mod [gb] w w':=by
 have:=view_Put gb t pre post go _ _ i hi e h64 w h (fun hl=>by rw[(lane_lt gb t pre post go G w h i hi).1 hl]at he;cases he);rw[byte_getD G i (by rw[h.len8];exact hi),tomb_byte _ he]at this;refine this.mono fun x w' ⟨h1,h2,h3⟩=>⟨h1, ?_,h3⟩;unfold GAt;rw[bytes_set,ents_set_slot];exact h2
theorem grp_Erase (i:Nat)(hi:i<8)(e:Ent)(he:G.getD i .empty= .full e):
  Calls Tryz.prog 289 #[viewV ⟨gb,go,none⟩,.int .i64 (i:Int)] w fun x w'=>x= .returned (.tuple #[.bool !(openG G),.nilIface])∧GAt w' gb t pre post go (G.set i (if openG G then .empty else .tomb))∧Mod [gb] w w':=by
 have hm:=(lane_lt gb t pre post go G w h i hi).2 (by rw[he];rfl)
 cases ho:openG G with
 |true=>
  refine(view_Erase_open gb t pre post go _ _ i hi w h hm (by rw[any_open];exact ho)).mono fun x w' ⟨h1,h2,h3⟩=>⟨h1, ?_,h3⟩;unfold GAt;rw[bytes_set,ents_set_slot];exact h2
 |false=>
  refine(view_Erase_shut gb t pre post go _ _ i hi w h hm (by rw[any_open];exact ho)).mono fun x w' ⟨h1,h2,h3⟩=>⟨h1, ?_,h3⟩;unfold GAt;rw[bytes_set,ents_set_slot];exact h2
theorem grp_Clear:Calls Tryz.prog 158 #[viewV ⟨gb,go,none⟩] w fun x w'=>x= .returned undef∧GAt w' gb t pre post go (List.replicate 8 .empty)∧Mod [gb] w w':=view_Clear gb t pre post go _ _ w h
theorem grp_Entries (hT:TzIn w):Calls Tryz.prog 291 #[viewV ⟨gb,go,none⟩] w fun e w'=>∃A c,e= .returned (.slice A (entsG G).length c)∧
  w'.ownsRow w.heap.size 199 3 (.slice A (entsG G).length c) (entsG G).length ((entsG G).flatMap entCells)∧Below w.heap.size w w':=by
 have:=view_Entries gb t pre post go _ _ w h hT
 have he:entsR (G.map Slot.byte) (G.map Slot.ent)=entsG G:=by
  unfold entsR fullL notL;rw[List.map_map,List.map_map];exact lanes_ents _ G 0 (fun k x hk=>by rw[Nat.zero_add,ent_getD,List.getD_eq_getElem?_getD,hk];rfl)
 rwa [he]at this
end
end Go.Proofs.YtfbljmcjadfkoaaGreatDoor

/-! A table in memory. -/
namespace Go.Proofs.YtfbljmcjadfkoaaGreatDoor
set_option maxRecDepth 100000
set_option maxHeartbeats 2000000
open Go.RowKit Go.Shelf AmC Go
variable {G : Grp} {gs : Tab} {i : Nat} {S : List Nat}
structure TabM where
 gs:Tab
 live:Int
 tombs:Int
def gCells (G:Grp):List Value:=rawCells (G.map Slot.byte) (G.map Slot.ent)
def tabCells (gs:Tab):List Value:=gs.flatMap gCells
structure TabAt (w:World)(tb gb:Nat)(T:TabM):Prop where
 wide:Wide T.gs
 tab:Blk w tb 232 #[.slice (some ⟨gb,0,none⟩) T.gs.length T.gs.length,.int .i64 T.live,.int .i64 T.tombs]
 grp:Blk w gb 239 (tabCells T.gs).toArray
 ne:tb≠gb
theorem gCells_length (h:G.length=8):(gCells G).length=25:=by unfold gCells rawCells;rw[List.length_cons,ents_length,List.length_map,h]
theorem tabCells_length (h:Wide gs):(tabCells gs).length=gs.length*25:=by
 induction gs with
 |nil=>rfl
 |cons G gs ih=>
  have h1:=gCells_length (h G (by simp));have h2:=ih (fun X hX=>h X (by simp[hX]));unfold tabCells at h2⊢;rw[List.flatMap_cons,List.length_append,h1,h2,List.length_cons];omega
theorem tabCells_at (hi:i<gs.length):tabCells gs=tabCells (gs.take i)++(gCells (gs.getD i [])++tabCells (gs.drop (i+1))):=by
 conv=>lhs;rw[split_at (d:=[]) hi]
 simp[tabCells]
theorem tabCells_set (hi:i<gs.length)(G:Grp):tabCells (gs.set i G)=tabCells (gs.take i)++(gCells G++tabCells (gs.drop (i+1))):=by
 rw[set_split hi];simp[tabCells]
theorem wide_set (h:Wide gs)(i:Nat)(hG:G.length=8):Wide (gs.set i G):=fun X hX=>by
 rcases List.mem_or_eq_of_mem_set hX with hX|rfl
 ·exact h X hX
 ·exact hG
section
variable {w w' : World} {tb gb : Nat} {T : TabM}
theorem TabAt.ltT (h:TabAt w tb gb T):tb<w.heap.size:=h.tab.lt
theorem TabAt.ltG (h:TabAt w tb gb T):gb<w.heap.size:=h.grp.lt
theorem TabAt.mod (h:TabAt w tb gb T)(hm:Mod S w w')(h1:tb∉S)(h2:gb∉S):TabAt w' tb gb T:=⟨h.wide,h.tab.mod hm h1,h.grp.mod hm h2,h.ne⟩
instance {w w':World}{tb gb:Nat}{T:TabM}:Md (TabAt w tb gb T) w w' (TabAt w' tb gb T) (fun S=>tb∉S∧gb∉S):=⟨fun h hm hs=>h.mod hm hs.1 hs.2⟩
theorem TabAt.below (h:TabAt w tb gb T)(hb:Below w.heap.size w w'):TabAt w' tb gb T:=h.mod (Mod.of_below hb []) (by simp) (by simp)
theorem TabAt.keep {n₀:Nat}(h:TabAt w tb gb T)(hm:KeepS n₀ S w w')(h1:tb<n₀)(h2:gb<n₀)(h3:tb∉S)(h4:gb∉S):TabAt w' tb gb T:=⟨h.wide,hm.blk h.tab h1 h3,hm.blk h.grp h2 h4,h.ne⟩
theorem TabAt.group (h:TabAt w tb gb T)(i:Nat)(hi:i<T.gs.length):GAt w gb 239 (tabCells (T.gs.take i)) (tabCells (T.gs.drop (i+1))) (i*25) (T.gs.getD i []):=by
 have hw:Wide (T.gs.take i):=fun X hX=>h.wide X (List.mem_of_mem_take hX);have h8:=h.wide.at_ hi;refine⟨by rw[tabCells_length hw,List.length_take];congr 1;omega,by simpa using h8,bytes_grp _,by simpa using h8, ?_⟩;have:=h.grp;rw[tabCells_at hi]at this;exact this
theorem TabAt.set_group (h:TabAt w tb gb T)(i:Nat)(hi:i<T.gs.length)(hm:Mod [gb] w w')(hG:GAt w' gb 239 (tabCells (T.gs.take i)) (tabCells (T.gs.drop (i+1))) (i*25) G):TabAt w' tb gb {T with gs:=T.gs.set i G}:=by
 refine⟨wide_set h.wide i hG.len8, ?_, ?_,h.ne⟩
 ·have:=h.tab.mod hm (by simpa using h.ne);simpa using this
 ·show Blk w' gb _ (tabCells (T.gs.set i G)).toArray;rw[tabCells_set hi];exact hG.blk
theorem TabAt.cells (h:TabAt w tb gb T):w.cell? ⟨tb,0,none⟩=some (.slice (some ⟨gb,0,none⟩) T.gs.length T.gs.length)∧w.cell? ⟨tb,1,none⟩=some (.int .i64 T.live)∧w.cell? ⟨tb,2,none⟩=some (.int .i64 T.tombs):=
 ⟨h.tab.cell 0,h.tab.cell 1,h.tab.cell 2⟩
theorem TabAt.set_live (h:TabAt w tb gb T)(x:Int):TabAt (w.setCell ⟨tb,1,none⟩ (.int .i64 x)) tb gb {T with live:=x}:=
 ⟨h.wide,h.tab.set_ 1 _,h.grp.far (p:=⟨tb,1,none⟩) (Ne.symm h.ne) _,h.ne⟩
theorem TabAt.set_tombs (h:TabAt w tb gb T)(x:Int):TabAt (w.setCell ⟨tb,2,none⟩ (.int .i64 x)) tb gb {T with tombs:=x}:=
 ⟨h.wide,h.tab.set_ 2 _,h.grp.far (p:=⟨tb,2,none⟩) (Ne.symm h.ne) _,h.ne⟩
end
def tabP (tb:Nat):Value:= .pointer (some ⟨tb,0,none⟩)
theorem table_Groups (tb gb:Nat)(T:TabM)(w:World)(h:TabAt w tb gb T):Calls Tryz.prog 145 #[tabP tb] w fun e w'=>e= .returned (.int .i64 (T.gs.length:Int))∧w=w':=by
 obtain⟨h0,h1,h2⟩:=h.cells;clear h;unfold tabP;go_in;go_wp2;go_ret;exact⟨rfl,rfl⟩
theorem table_Left (tb gb:Nat)(T:TabM)(w:World)(h:TabAt w tb gb T)(hn:T.gs.length≤64)(hl:0≤T.live∧T.live≤1000)(ht:0≤T.tombs∧T.tombs≤1000):
  Calls Tryz.prog 208 #[tabP tb] w fun e w'=>e= .returned (.int .i64 (7*(T.gs.length:Int)-T.live-T.tombs))∧w'=w.drew:=by
 obtain⟨h0,h1,h2⟩:=h.cells;obtain⟨l0,l1⟩:=hl;obtain⟨t0,t1⟩:=ht;clear h;generalize T.gs.length=n at*;generalize T.live=a at*;generalize T.tombs=b at*;unfold tabP;go_in;go_upto_region 1 with fail;go_region;go_wp2;go_ret;exact⟨ret_int (by omega),rfl⟩
end Go.Proofs.YtfbljmcjadfkoaaGreatDoor
