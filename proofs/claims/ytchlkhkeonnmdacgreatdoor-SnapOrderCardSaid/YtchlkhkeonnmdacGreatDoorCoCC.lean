/- A scheduler's Ids by its contract. -/
import Derived.Test.YtchlkhkeonnmdacGreatDoorCoBS
import Derived.Test.YtchlkhkeonnmdacGreatDoorLaneP
import Derived.Test.YtchlkhkeonnmdacGreatDoorCoS
import Derived.Maps.OwnIn
import Derived.Test.YtchlkhkeonnmdacGreatDoorCoAB
import Derived.Test.YtchlkhkeonnmdacGreatDoorCoBH
import Derived.Test.YtchlkhkeonnmdacGreatDoorSqT
namespace Go.Proofs.YtchlkhkeonnmdacGreatDoor
set_option maxRecDepth 100000
set_option maxHeartbeats 2000000
open Go.RowKit Go.Shelf AmC
section
variable {t : TypeId} {base : Nat} {v : Value}
attribute [local go_sem] Oper.semAt_some
theorem wpListIn_append1 {F:Fence}{fu:Nat}{P:Program}{w0:World}{ops:Array Oper}{rest:List Oper}{o:Oper}{a:Act}{Q:Exit→Act→World→Prop}(hgd:o.guard=none){s x:Operand}(ho:o.op= .call {callee:= .builtin .append,args:= #[s,x],argTypes:= #[t,t]}){e:TypeId}{size bytes:Nat}(hT:SlTy P t e size bytes){n:Nat}{xs:List Value}(hown:w0.ownsRow base e size v n xs)(hs:a.eval s=v){cs:Array Value}{t':TypeId}{c:Nat}{g:Nat}(hx:a.eval x= .slice (some ⟨g,0,none⟩) 1 c)(hg0:g=w0.heap.size)(hl:cs.size=size)(h1':(cs.toList.all fun u=>u.oneCell')=true)(hn:n<33554432)(hbase:base≤w0.heap.size)(h:∀v' w',w'.ownsRow base e size v' (n+1) (xs++cs.toList)→Grew w0 base v w' v'→wpListIn F fu P ops Q rest (a.put o.dst v') w'):
  wpListIn F fu P ops Q (o::rest) a (w0.alloc (.cells cs t')):=by
 obtain⟨i,z,ht,hi,hz,hsize,hby,hzs,hsz,hb⟩:=hT;have h1:∀u∈cs.toList,u.oneCell'=true:=List.all_eq_true.1 h1';subst hg0
 refine wpListIn_append_own_at (w0.alloc (.cells cs t')) hgd s x t ho base e i z size bytes ht hi hz hsize hby hzs hsz v n xs hs (hown.alloc _) ⟨w0.heap.size,0,none⟩ 1 c cs.toList hx (by simp[hl]) ?_ h1
  (by simp only[maxLen];omega) ?_ (by simp;omega) ?_
 ·intro j u hj
  have hadd:(⟨w0.heap.size,0,none⟩:Addr).add j=⟨w0.heap.size,j,none⟩:=by unfold Addr.add;split<;>simp_all
  rw[hadd,(Blk.new w0 t' cs).cell];simpa using hj
 ·have:(n+1)*bytes≤33554432*4096:=Nat.mul_le_mul (by omega) hb;omega
 ·intro v' w' hown' hg _ hat;have hlt:=hown.lt;have hb0:Below base w0 (w0.alloc (.cells cs t')):=(Below.refl _ _).alloc hbase _;refine h v' w' hown' ⟨hb0.grown hg (by simp;omega) (fun k hk=>(hlt k hk).1),⟨hg.os,hg.tape,hg.output,by have:=hg.size;simp at this;omega,fun k hk hne=> ?_⟩, ?_⟩
  ·exact(hg.block k (by simp;omega) hne).trans (Below.heap_alloc w0 _ k hk)
  ·rcases hat with hat|hat
   ·exact .inl hat
   ·exact .inr ⟨_,hat,by simp⟩
def atQ (ids:List Nat)(pre:List (Fin ids.length)):List Nat:=pre.map (nthQ ids)
theorem atQ_all (ids:List Nat):atQ ids (List.finRange ids.length)=ids:=by
 unfold atQ;apply List.ext_getElem
 ·simp
 ·intro i h1 h2;simp only[List.getElem_map,List.getElem_finRange,nthQ];rw[List.getD_eq_getElem?_getD,List.getElem?_eq_getElem (by simpa using h2)];rfl
theorem atQ_snoc (ids:List Nat)(pre:List (Fin ids.length))(x:Fin ids.length):intVals (atQ ids (pre++[x]))=intVals (atQ ids pre)++[.int .i64 ((nthQ ids x:Nat):Int)]:=by simp[atQ,intVals]
theorem keepO_app {n₀ ob:Nat}{V w4:World}{v4:Value}(hOB:Boxed V ob t v)(hg:Grew V base v w4 v4)(hK:KeepS n₀ [ob] V (w4.setCell ⟨ob,0,none⟩ v4))(hB4:Boxed (w4.setCell ⟨ob,0,none⟩ v4) ob t v4):KeepO n₀ ob V (w4.setCell ⟨ob,0,none⟩ v4):=by
 have hr:boxRow V ob=v.ownBlock:=by unfold boxRow;rw[hOB.cell];rfl
 have hr4:boxRow (w4.setCell ⟨ob,0,none⟩ v4) ob=v4.ownBlock:=by unfold boxRow;rw[hB4.cell];rfl
 refine⟨hK,fun k o hk hc hne hro=> ?_,fun k hk=> ?_⟩
 ·have hlt:=(Array.getElem?_eq_some_iff.1 hk).1;rw[Below.heap_setCell _ _ _ _ hne];rw[hr]at hro;exact(hg.by_.block k hlt (fun e=>hro e.symm)).trans hk
 ·rw[hr4]at hk;rw[hr];rcases hg.at_ with h1|⟨g,h1,h2⟩
  ·exact .inl (h1▸hk)
  ·rw[h1]at hk
   injection hk with hk
   subst hk;exact .inr h2
theorem sched_Ids (sb qb rb jb:Nat)(k b:Int)(val:Nat→Value)(ids:List Nat)(w:World)(h:SchAt w sb qb rb jb k b val ids):
  Calls Tryz.prog 145 #[schP sb] w fun e w'=>∃A c,e= .returned (.slice A ids.length c)∧w'.ownsRow w.heap.size 3 1 (.slice A ids.length c) ids.length (intVals ids)∧Below w.heap.size w w':=by
 obtain⟨s,hb⟩:=h.blk;obtain⟨ring,first,hq⟩:=h.que;have hmn:=h.many;have hB:=(Below.refl w.heap.size w).alloc (Nat.le_refl _) (.cells #[.slice none 0 0] 169);have hO:=Blk.new w 169 #[.slice none 0 0];obtain⟨W,hW⟩:∃W,W=w.alloc (.cells #[.slice none 0 0] 169):=⟨_,rfl⟩;rw[←hW]at hB hO;have hQ:=hq.mod (Mod.of_below hB []) (by simp) (by simp);have hS:=hb.mod (Mod.of_below hB []) (by simp);have hsl:=hS.lt;have HW:=qd hW;have HB:=qd hB;unfold schP;have v0:=Blk.cell hS 3;simp only[gl]at v0;clear hW hB h hb hq hS;refine(callsIn_wide (n:=10)).1 ?_
 have h1:1≤10:=by omega
 refine callsIn_of_wp_calm Tryz.func145 rfl trivial rfl ?_;simp only[Tryz.ntmps145,List.size_toArray,List.length_cons,List.length_nil,Nat.reduceAdd,Nat.reduceSub,Array.replicate_succ,Array.replicate_zero,List.push_toArray,List.append_toArray,List.nil_append,List.cons_append];refine wpIn_wide.2 ?_;go_upto_region 2 with fail;rw[←HW.out];go_wp2_with fail;refine(queue_All qb _).mono ?_;rintro e w1 ⟨rfl,hw1⟩;have hb1:Below W.heap.size W w1:=hw1▸(Below.refl W.heap.size W).alloc (Nat.le_refl _) _;have hX1:Blk w1 W.heap.size 172 #[.pointer (some ⟨qb,0,none⟩)]:=hw1▸Blk.new W _ _;clear hw1;go_wp2_with fail;refine(wpIn_wide (n:=10)).1 ?_;have hB1:Below w.heap.size w w1:=below_nx hb1 HB.out;have hlt3:w.heap.size<W.heap.size:=hO.lt;have hO1:Boxed w1 w.heap.size 169 (.slice none 0 0):=hO.below hb1 hO.lt;have hQ1:=hQ.mod (Mod.of_below hb1 []) (by simp) (by simp);have hbl:=hB1.size;have hbs:=hb1.size;clear hQ v0
 refine wpIn_rangeFunc_ownH rfl h1 (gf:=213) (lb:= #[.pointer (some ⟨W.heap.size,0,none⟩)]) rfl trivial (enters_of Tryz.func213 (by kernel_rfl) rfl)
  (queue_seq (10-1) (by omega) w1.heap.size w.heap.size W.heap.size qb rb ring first ids w1 (hX1.cell 0) hX1.lt hQ1 (by omega) hO1.cell) keepO_t (keepO_b (Nat.le_refl _) (by omega)) (Below.refl _ _) (fun _=>rfl)
  (fun pre V=>(∃v,Boxed V w.heap.size 169 v∧V.ownsRow w1.heap.size 3 1 v pre.length (intVals (atQ ids pre))∧True)∧KeepS w1.heap.size [w.heap.size] w1 V)
  (fun _ _ _=>False)
  (OwnFrom.and (Own.from (holdsRow_own w1.heap.size w.heap.size 169 3 1 List.length (fun pre=>intVals (atQ ids pre)) (fun _ _=>True)) _) (ownFrom_keepS (Nat.le_refl _) (Nat.le_refl _)))
  (fun _ _ _ _ _ hs _ _=>hs)
  ⟨⟨_,hO1,⟨by simp[atQ,intVals],.inl ⟨rfl,rfl⟩⟩,trivial⟩,KeepS.refl _ _ _⟩
  (fun x a' _=>a'={tmps:= #[.pointer (some ⟨sb,0,none⟩),undef,.slice none 0 0,.pointer (some ⟨w.heap.size,0,none⟩),undef,.int .i64 ((nthQ ids x:Nat):Int),.pointer (some ⟨sb,0,none⟩),.pointer (some ⟨sb,0,none⟩),.pointer (some ⟨sb,3,none⟩),.pointer (some ⟨qb,0,none⟩),.func (.func 213) #[] #[.pointer (some ⟨W.heap.size,0,none⟩)],.int .i64 (x.val:Int),.int .i64 ((nthQ ids x:Nat):Int),undef,undef,undef,undef,undef],defers:=[]})
  (fun _ _ _ _ _ _ hs _ _=>hs) ?assign ?body ?done ?stop
 case assign=>
  rintro lp pre x V K hi hK
  gi_wp2
  exact hK _ _ (KeepsFrom.refl _ _) (KeepO.refl _ _ _) hi rfl
 case body=>
  rintro lp pre x a' V hl ⟨r,hr⟩ ⟨⟨v,hOB,hO,-⟩,hKS⟩ rfl hlt;obtain⟨A,c,rfl⟩:=own_form hO;have ho:=hOB.cell;have hltV:=hOB.lt;have HSn:=qd (atQ_snoc ids pre x);have hVs:=hKS.size;generalize nthQ ids x=id at*
  gi_wp2_with (gi_at_builtin;refine wpListIn_append1 rfl rfl slty_int hO rfl rfl rfl rfl rfl (by omega) (by omega) ?_;intro v4 w4 hown4 hgr4;obtain⟨A4,c4,rfl⟩:=own_form hown4;have hox:Boxed w4 w.heap.size 169 (.slice A pre.length c):=(hgr4.below.block _ (by omega)).trans hOB;have o4:=hox.cell;have f4:=hox.frozen)
  have hfin:Boxed (w4.setCell ⟨w.heap.size,0,none⟩ (.slice A4 (pre.length+1) c4)) w.heap.size 169 (.slice A4 (pre.length+1) c4):=hox.set _
  have hne4:(Value.slice A4 (pre.length+1) c4).ownBlock≠some w.heap.size:=fun he=>by
   have:=(hown4.lt _ he).1;omega
  have hown5:=hown4.kept (grownBy_setCell' w4 w.heap.size (.slice A4 (pre.length+1) c4)) (.inr hne4);have hK4:KeepS w1.heap.size [w.heap.size] w1 w4:=keepS_t hKS (KeepS.of_below hgr4.below);have hKF4:KeepsFrom w1.heap.size V w4:=keepsFrom_app hVs (Below.refl _ _) hO hgr4;have hKF5:=hKF4.trans ((KeepsOthers.setCell w4 ⟨w.heap.size,0,none⟩ (.slice A4 (pre.length+1) c4)).from _);have hK5:KeepS w1.heap.size [w.heap.size] w1 (w4.setCell ⟨w.heap.size,0,none⟩ (.slice A4 (pre.length+1) c4)):=hK4.set_ (.inl (by simp)) _ _;have hKp:KeepS w1.heap.size [w.heap.size] V (w4.setCell ⟨w.heap.size,0,none⟩ (.slice A4 (pre.length+1) c4)):=(KeepS.of_below hgr4.below).set_ (.inl (by simp)) _ _;have hKO:=keepO_app hOB hgr4 hKp hfin;have HE:=qd (And.intro hKF5 (And.intro hKO (And.intro (And.intro hfin hown5) hK5)));clear hKF5 hKp hfin hown5 hK5 hKF4 hK4 hown4 hgr4 hox hKO
  first|gi_wp2|skip
  exact⟨HE.out.1,HE.out.2.1,⟨_,HE.out.2.2.1.1,by rw[HSn.out,List.length_append];exact HE.out.2.2.1.2⟩,HE.out.2.2.2⟩
 case done=>
  rintro D ys V hD hys ⟨⟨v,hOB,hO,-⟩,hKS⟩ hKD;obtain⟨A,c,rfl⟩:=own_form hO;have ho:=hOB.cell;subst hys
  have hlen:(List.finRange ids.length).length=ids.length:=by simp
  rw[atQ_all,hlen]at hO;rw[hlen]at hOB ho;have hKm:=(Mod.of_below hB1 [w.heap.size]).then hKS.mod;have HOw:=qd hO;clear hO;go_wp2;refine leavesM ⟨by simp,.inl ⟨_,_,rfl,run_takeDeferred hKD, ?_⟩⟩;refine⟨.slice A ids.length c, ?_,A,c,rfl, ?_, ?_⟩
  ·simp[results,Tryz.f145,go_sem]
  ·exact own_base (ownsRow_putObj HOw.out _ hKD rfl) (by omega)
  ·exact(hKm.below (by simp) (Nat.le_refl _)).trans (belowK_b (w:=w) (Nat.le_refl _) V D _ _ (by omega) hKD rfl rfl)
 case stop=>
  rintro D c pre V hD hS hI;exact hI.elim
end
section
variable {x y : Mtr} {base n p q u : Nat} {F' S : List Nat} {e : TypeId} {xs : List Value}
def Cost (x x':Mtr)(p u:Nat):Prop:=0≤x.last.p→0≤x.last.u→0≤x'.last.p∧x'.last.p≤x.last.p+p∧0≤x'.last.u∧x'.last.u≤x.last.u+u
theorem Cost.refl (x:Mtr):Cost x x 0 0:=fun h1 h2=>⟨h1,by omega,h2,by omega⟩
theorem Cost.trans {z:Mtr}{v:Nat}(h:Cost x y p u)(k:Cost y z q v):Cost x z (p+q) (u+v):=fun h1 h2=>by
 obtain⟨a,b,c,d⟩:=h h1 h2;obtain⟨a',b',c',d'⟩:=k a c;exact⟨a',by omega,c',by omega⟩
theorem Cost.mono {v:Nat}(h:Cost x y p u)(hp:p≤q)(hu:u≤v):Cost x y q v:=fun h1 h2=>by
 obtain⟨a,b,c,d⟩:=h h1 h2;exact⟨a,by omega,c,by omega⟩
def mtrP (P:MP):Value:= .pointer (some ⟨P.mb,P.mo,none⟩)
structure PoolOk (W0:World)(E:Nat→Addr)(P:MP){α:Type}(jt:Nat→TypeId)(ja:Nat→Addr)(At:World→List Nat→α→Prop)(can:α→Nat→Prop)(left:α→Nat→Nat)(Stp:α→Nat→α→Prop):Prop where
 jt_:∀{a id},can a id→JobT (jt id)
 lt:∀{V F a},At V F a→∀q∈F,q<V.heap.size∧W0.heap.size≤q
 mb:∀{V F a},At V F a→P.mb∉F
 stab:∀{V V' F S a},At V F a→Mod S V V'→(∀q∈F,q∉S)→At V' F a
 le:∀{V F a id},At V F a→can a id→left a id≤1000
 left_:∀{V F a id},At V F a→can a id→Calls Tryz.prog (leftF (jt id)) #[.pointer (some (ja id))] V fun e V'=>e= .returned (.int .i64 (left a id:Int))∧Below V.heap.size V V'
 step_:∀{V F a id x},At V F a→can a id→1≤left a id→Env W0 E V→MetP V P x→Calls Tryz.prog (stepF (jt id)) #[.pointer (some (ja id)),mtrP P] V fun e V'=>e= .returned (.bool true)∧∃a' F' x',Stp a id a'∧At V' F' a'∧(∀q∈F',q∈F∨V.heap.size≤q)∧MetP V' P x'∧Cost x x' 0 1∧Mod (P.mb::F) V V'
 can_:∀{a id a' j},Stp a id a'→can a j→can a' j
 left_same:∀{a id a' j},Stp a id a'→j≠id→left a' j=left a j
 left_less:∀{a id a'},Stp a id a'→left a' id+1=left a id
structure SP where
 sb:Nat
 qb:Nat
 rb:Nat
 jb:Nat
 k:Int
 val:Nat→Value
def SP.blocks (s:SP):List Nat:=[s.sb,s.qb,s.rb,s.jb]
structure SchSt (W0:World)(E:Nat→Addr)(P:MP){α:Type}(At:World→List Nat→α→Prop)(s:SP)(w0:World)(F0:List Nat)(w:World)(b:Int)(ids:List Nat)(a:α)(F:List Nat)(x:Mtr):Prop where
 sch:SchAt w s.sb s.qb s.rb s.jb s.k b s.val ids
 pool:At w F a
 met:MetP w P x
 env:Env W0 E w
 apart:∀q∈s.blocks,q∉F∧q≠P.mb∧W0.heap.size≤q
 mb0:W0.heap.size≤P.mb
 le0:W0.heap.size≤w0.heap.size
 sub:∀q∈F,q∈F0∨w0.heap.size≤q
 mod:Mod (P.mb::(s.blocks++F0)) w0 w
section
variable {W0 w0 w w' : World} {E : Nat → Addr} {P : MP} {α : Type} {jt : Nat → TypeId} {ja : Nat → Addr} {At : World → List Nat → α → Prop} {can : α → Nat → Prop} {left : α → Nat → Nat} {Stp : α → Nat → α → Prop}
 {s:SP} {F0 F:List Nat} {b:Int} {ids:List Nat} {a:α} {x:Mtr}
theorem SchSt.size (h:SchSt W0 E P At s w0 F0 w b ids a F x):w0.heap.size≤w.heap.size:=h.mod.size
theorem SchSt.start (hs:SchAt w s.sb s.qb s.rb s.jb s.k b s.val ids)(hp:At w F a)(hm:MetP w P x)(he:Env W0 E w)(ha:∀q∈s.blocks,q∉F∧q≠P.mb∧W0.heap.size≤q)(hmb:W0.heap.size≤P.mb):SchSt W0 E P At s w F w b ids a F x:=
 ⟨hs,hp,hm,he,ha,hmb,he.size,fun _ h=> .inl h,Mod.refl _ _⟩
theorem SchSt.away (HP:PoolOk W0 E P jt ja At can left Stp)(h:SchSt W0 E P At s w0 F0 w b ids a F x)(hm:Mod S w w')(hS:∀q∈S,w0.heap.size≤q∧q∉F∧q≠P.mb∧q∉s.blocks∧W0.heap.size≤q):SchSt W0 E P At s w0 F0 w' b ids a F x:=
 ⟨h.sch.mod hm (fun q hq hqS=>(hS q hqS).2.2.2.1 hq),HP.stab h.pool hm (fun q hq hqS=>(hS q hqS).2.1 hq),h.met.mod hm (fun hq=>(hS _ hq).2.2.1 rfl),h.env.mod hm (fun q hq=>(hS q hq).2.2.2.2),h.apart,h.mb0,h.le0,h.sub,
  h.mod.trans hm (fun _ hq _=>hq) (fun q hq hl=>by have:=(hS q hq).1;omega)⟩
theorem SchSt.below (HP:PoolOk W0 E P jt ja At can left Stp)(h:SchSt W0 E P At s w0 F0 w b ids a F x)(hb:Below w.heap.size w w'):SchSt W0 E P At s w0 F0 w' b ids a F x:=h.away HP (Mod.of_below hb []) (by simp)
theorem SchSt.own (HP:PoolOk W0 E P jt ja At can left Stp)(h:SchSt W0 E P At s w0 F0 w b ids a F x){b':Int}{ids':List Nat}(hm:Mod S w w')(hS:∀q∈S,q∈s.blocks)(hs:SchAt w' s.sb s.qb s.rb s.jb s.k b' s.val ids'):SchSt W0 E P At s w0 F0 w' b' ids' a F x:=
 ⟨hs,HP.stab h.pool hm (fun q hq hqS=>(h.apart q (hS q hqS)).1 hq),h.met.mod hm (fun hq=>(h.apart _ (hS _ hq)).2.1 rfl),h.env.mod hm (fun q hq=>(h.apart q (hS q hq)).2.2),h.apart,h.mb0,h.le0,h.sub,
  h.mod.trans hm (fun _ hq _=>hq) (fun q hq _=>by simp[hS q hq])⟩
theorem SchSt.stepped (HP:PoolOk W0 E P jt ja At can left Stp)(h:SchSt W0 E P At s w0 F0 w b ids a F x){a':α}{x':Mtr}(hA:At w' F' a')(hF:∀q∈F',q∈F∨w.heap.size≤q)(hM:MetP w' P x')(hm:Mod (P.mb::F) w w'):SchSt W0 E P At s w0 F0 w' b ids a' F' x':=
 ⟨h.sch.mod hm (fun q hq hqS=>by
   have:=h.apart q hq;rcases List.mem_cons.1 hqS with h1|h1
   ·exact this.2.1 h1
   ·exact this.1 h1),hA,hM,h.env.mod hm (fun q hq=>by
   rcases List.mem_cons.1 hq with h1|h1
   ·rw[h1];exact h.mb0
   ·exact(HP.lt h.pool q h1).2),fun q hq=>⟨fun hq'=>by
   rcases hF q hq' with h1|h1
   ·exact(h.apart q hq).1 h1
   ·have:=h.sch.lt q hq;omega,(h.apart q hq).2⟩,h.mb0,h.le0,fun q hq=>by
   rcases hF q hq with h1|h1
   ·exact h.sub q h1
   ·exact .inr (Nat.le_trans h.size h1),
  h.mod.trans hm (fun _ hq _=>hq) (fun q hq hl=>by
   rcases List.mem_cons.1 hq with h1|h1
   ·simp[h1]
   ·rcases h.sub q h1 with h2|h2
    ·simp[h2]
    ·omega)⟩
def RowAp (P:MP)(s:SP)(F:List Nat)(v:Value):Prop:=∀g,v.ownBlock=some g→g∉P.mb::(s.blocks++F)
theorem SchSt.lts (HP:PoolOk W0 E P jt ja At can left Stp)(h:SchSt W0 E P At s w0 F0 w b ids a F x):∀q∈P.mb::(s.blocks++F),q<w.heap.size:=by
 intro q hq;rcases List.mem_cons.1 hq with h1|h1
 ·rw[h1];exact h.met.lt
 ·rcases List.mem_append.1 h1 with h2|h2
  ·exact h.sch.lt q h2
  ·exact(HP.lt h.pool q h2).1
theorem RowAp.step {v:Value}{size:Nat}(h:RowAp P s F v)(hO:w.ownsRow base e size v n xs)(hF:∀q∈F',q∈F∨w.heap.size≤q):RowAp P s F' v:=fun g hg hq=>by
 have hl:=(hO.lt g hg).2;have hn:=h g hg;simp only[List.mem_cons,List.mem_append,not_or]at hn hq;rcases hq with h1|h1|h1
 ·exact hn.1 h1
 ·exact hn.2.1 h1
 ·rcases hF g h1 with h2|h2
  ·exact hn.2.2 h2
  ·omega
theorem SchSt.app (HP:PoolOk W0 E P jt ja At can left Stp)(h:SchSt W0 E P At s w0 F0 w b ids a F x){v v':Value}{size:Nat}(hO:w.ownsRow base e size v n xs)(hb:w0.heap.size≤base)(hr:RowAp P s F v)(hg:Grew w base v w' v'):SchSt W0 E P At s w0 F0 w' b ids a F x∧RowAp P s F v':=by
 refine⟨h.away HP (S:=v.ownBlock.toList) ⟨hg.by_.os,hg.by_.tape,hg.by_.output,hg.by_.size,fun k hk hn=>hg.by_.block k hk (fun e=>hn (by rw[←e];simp))⟩ (fun q hq=> ?_),fun g hgq hq=> ?_⟩
 ·have hq':v.ownBlock=some q:=by simpa using hq
  have h1:=hr q hq';have h2:=(hO.lt q hq').1;have h3:=h.le0;simp only[List.mem_cons,List.mem_append,not_or]at h1;exact⟨by omega,h1.2.2,h1.1,h1.2.1,by omega⟩
 ·rcases hg.at_ with h1|⟨g',h1,h2⟩
  ·exact hr g (h1▸hgq) hq
  ·rw[h1]at hgq
   injection hgq with hgq
   have:=h.lts HP g hq;omega
end
section
variable {W0 w0 : World} {E : Nat → Addr} {P : MP} {α : Type} {jt : Nat → TypeId} {ja : Nat → Addr} {At : World → List Nat → α → Prop} {can : α → Nat → Prop} {left : α → Nat → Nat} {Stp : α → Nat → α → Prop}
theorem step_done (HP:PoolOk W0 E P jt ja At can left Stp)(s:SP)(F0 F:List Nat)(b:Int)(ids:List Nat)(a:α)(x:Mtr)(id:Nat)(hc:can a id)(h0:left a id=0)(w:World)(h:SchSt W0 E P At s w0 F0 w b ids a F x):
  Calls Tryz.prog 142 #[schP s.sb,mtrP P,.iface (jt id) (.pointer (some (ja id)))] w fun e w'=>e= .returned (.bool false)∧Below w.heap.size w w':=by
 have:=HP.left_ h.pool hc;rw[h0]at this;exact sched_step_done s.sb (jt id) (ja id) (mtrP P) w (HP.jt_ hc) this
theorem step_broke (HP:PoolOk W0 E P jt ja At can left Stp)(s:SP)(F0 F:List Nat)(ids:List Nat)(a:α)(x:Mtr)(id:Nat)(hc:can a id)(h1:1≤left a id)(w:World)(h:SchSt W0 E P At s w0 F0 w 0 ids a F x):
  Calls Tryz.prog 142 #[schP s.sb,mtrP P,.iface (jt id) (.pointer (some (ja id)))] w fun e w'=>e= .returned (.bool false)∧Below w.heap.size w w':=by
 obtain⟨sp,hs⟩:=h.sch.blk;exact sched_step_broke s.sb s.qb s.jb s.k sp (left a id) h1 (jt id) (ja id) (mtrP P) w (HP.jt_ hc) (HP.left_ h.pool hc) hs
theorem step_yes (HP:PoolOk W0 E P jt ja At can left Stp)(s:SP)(F0 F:List Nat)(b:Nat)(hb:b≤999)(ids:List Nat)(a:α)(x:Mtr)(id:Nat)(hc:can a id)(h1:1≤left a id)(w:World)(h:SchSt W0 E P At s w0 F0 w ((b+1:Nat):Int) ids a F x):
  Calls Tryz.prog 142 #[schP s.sb,mtrP P,.iface (jt id) (.pointer (some (ja id)))] w fun e w'=>e= .returned (.bool true)∧∃a' F' x',Stp a id a'∧Cost x x' 0 1∧SchSt W0 E P At s w0 F0 w' (b:Int) ids a' F' x'∧(∀q∈F',q∈F∨w.heap.size≤q)∧Mod (P.mb::(s.blocks++F)) w w':=by
 obtain⟨sp,hs⟩:=h.sch.blk;refine(sched_step s.sb s.qb s.jb s.k sp b (left a id) h1 hb (jt id) (ja id) (mtrP P) (fun V V'=>∃a' F' x',Stp a id a'∧At V' F' a'∧(∀q∈F',q∈F∨V.heap.size≤q)∧MetP V' P x'∧Cost x x' 0 1∧Mod (P.mb::F) V V') w (HP.jt_ hc) (HP.left_ h.pool hc) hs ?_).mono ?_
 ·intro V hm hsV;have hV:=h.own HP hm (by simp[SP.blocks]) (h.sch.bal hm hsV);exact HP.step_ hV.pool hc h1 hV.env hV.met
 ·rintro e w' ⟨rfl,V,hm,hsV,a',F',x',h2,h3,h4,h5,h6,h7⟩;have hV:=h.own HP hm (by simp[SP.blocks]) (h.sch.bal hm hsV)
  exact⟨rfl,a',F',x',h2,h6,hV.stepped HP h3 h4 h5 h7,fun q hq=>(h4 q hq).imp (fun hh=>hh) (fun hh=>Nat.le_trans hm.size hh),hm.trans h7 (fun q hq _=>by simp at hq;simp[hq,SP.blocks]) (fun q hq _=>by
   rcases List.mem_cons.1 hq with h8|h8
   ·simp[h8]
   ·simp[h8])⟩
theorem remove_yes (HP:PoolOk W0 E P jt ja At can left Stp)(s:SP)(F0 F:List Nat)(b:Int)(ids:List Nat)(a:α)(x:Mtr)(id:Nat)(hid:id∈ids)(h1000:id≤1000)(w:World)(h:SchSt W0 E P At s w0 F0 w b ids a F x):
  Calls Tryz.prog 146 #[schP s.sb,.int .i64 (id:Int)] w fun e w'=>e= .returned (.bool true)∧SchSt W0 E P At s w0 F0 w' b (ids.erase id) a F x∧Mod s.blocks w w':=
 (sched_Remove s.sb s.qb s.rb s.jb s.k b s.val ids id hid h1000 w h.sch).mono fun e w' ⟨h1,h2,h3⟩=>⟨h1,h.own HP h3 (by simp[SP.blocks]) h2,h3.more (by simp[SP.blocks])⟩
theorem fund_yes (HP:PoolOk W0 E P jt ja At can left Stp)(s:SP)(F0 F:List Nat)(b n:Int)(hn:0≤n∧n≤1000)(ids:List Nat)(a:α)(x:Mtr)(w:World)(h:SchSt W0 E P At s w0 F0 w b ids a F x):
  Calls Tryz.prog 140 #[schP s.sb,.int .i64 n] w fun e w'=>e= .returned undef∧SchSt W0 E P At s w0 F0 w' n ids a F x:=by
 obtain⟨sp,hs⟩:=h.sch.blk;exact(sched_fund s.sb s.qb s.jb s.k b sp n hn w hs).mono fun e w' ⟨h1,h2,h3⟩=>⟨h1,h.own HP h3 (by simp[SP.blocks]) (h.sch.bal h3 h2)⟩
end
inductive Oth {α:Type}(left:α→Nat→Nat)(Stp:α→Nat→α→Prop):Nat→List Nat→α→List Nat→List Nat→α→Prop
 |nil (c:Nat) (a:α):Oth left Stp c [] a [] [] a
 |broke (ids:List Nat) (a:α):Oth left Stp 0 ids a [] ids a
 |ended {c id:Nat} {ids e ids':List Nat} {a a':α} (h:left a id=0) (r:Oth left Stp (c+1) ids a e ids' a'):Oth left Stp (c+1) (id::ids) a (id::e) ids' a'
 |step {c id:Nat} {ids e ids':List Nat} {a b a':α} (h:1≤left a id) (hs:Stp a id b) (r:Oth left Stp c (id::ids) b e ids' a'):Oth left Stp (c+1) (id::ids) a e ids' a'
end
section
variable {c l : Cnt} {cnt gX key p tX : Nat} {V w' : World} {TX : TabM} {S : List Nat}
theorem plusN_p (hp:c.p=(p:Int))(h:0≤l.p):∀n,0≤(plusN l c n).p∧(plusN l c n).p≤l.p+(p*n:Nat)
 |0=>⟨h,by show l.p≤_;omega⟩
 |n+1=>by
  obtain⟨h1,h2⟩:=plusN_p hp h n;show 0≤sumI _ _∧sumI _ _≤_;rw[hp,Nat.mul_succ];unfold sumI clampI;generalize(plusN l c n).p=a at*;generalize p*n=b at*;omega
theorem plusN_u (hp:c.u=(p:Int))(h:0≤l.u):∀n,0≤(plusN l c n).u∧(plusN l c n).u≤l.u+(p*n:Nat)
 |0=>⟨h,by show l.u≤_;omega⟩
 |n+1=>by
  obtain⟨h1,h2⟩:=plusN_u hp h n;show 0≤sumI _ _∧sumI _ _≤_;rw[hp,Nat.mul_succ];unfold sumI clampI;generalize(plusN l c n).u=a at*;generalize p*n=b at*;omega
theorem cost_P (x:Mtr)(n:Nat):Cost x (x.add cP n) n 0:=fun h1 h2=>by
 obtain⟨a,b⟩:=plusN_p (c:=cP) (p:=1) rfl h1 n;obtain⟨c,d⟩:=plusN_u (c:=cP) (p:=0) rfl h2 n;exact⟨a,by simpa[Mtr.add]using b,c,by simpa[Mtr.add]using d⟩
theorem cost_V (x:Mtr)(n:Nat):Cost x (x.add cV n) 0 0:=fun h1 h2=>by
 obtain⟨a,b⟩:=plusN_p (c:=cV) (p:=0) rfl h1 n;obtain⟨c,d⟩:=plusN_u (c:=cV) (p:=0) rfl h2 n;exact⟨a,by simpa[Mtr.add]using b,c,by simpa[Mtr.add]using d⟩
theorem cost_U (x:Mtr)(k:Nat):Cost x (x.add (cU (k:Int)) 1) 0 k:=fun h1 h2=>by
 obtain⟨a,b⟩:=plusN_p (c:=cU (k:Int)) (p:=0) rfl h1 1;obtain⟨c,d⟩:=plusN_u (c:=cU (k:Int)) (p:=k) rfl h2 1;exact⟨a,by simpa[Mtr.add]using b,c,by simpa[Mtr.add]using d⟩
theorem below2 {w U:World}(h:Below w.heap.size w V)(k:Below V.heap.size V U):Below w.heap.size w U:=((Mod.of_below h []).trans (Mod.of_below k []) (by simp) (by simp)).to_below
theorem SeekTo.next {w:World}{db hash:Nat}{P:MP}{x:Mtr}(h:SeekTo w db P x c key hash tX gX TX cnt)(hV:Below w.heap.size w V):SeekTo V db P x c key hash tX gX TX cnt:=fun U hU=>h U (below2 hV hU)
theorem Through.out {w:World}{R:World→Prop}(h:Through (fun V V'=>R V'∧Mod S V V') w w')(_:∀k∈S,k<w.heap.size)(hR:∀(V':World) (g:Nat),w.heap.size≤g→R V'→Mod [g] V' w'→R w'):R w'∧Mod S w w':=by
 obtain⟨V,V',g,h1,⟨h2,h3⟩,h4,h5,h6⟩:=h;exact⟨hR V' g h4 h2 h6,((Mod.of_below h1 S).then h3).trans h6 (fun _ hh _=>hh) (fun q hq hl=>by simp at hq;omega)⟩
section
variable {W0 : World} {E : Nat → Addr} {H : Nat → Nat} {nb : Nat} {F : List Nat} {N : Nd} {P : MP} {x : Mtr} {w : World}
theorem Wr.world {del add:List Ent}{X:TabM}(_:MetP w P x)(hF:P.mb∉F)(W:Whr w H nb F N P x cP key tX gX cnt TX)(h1:TabAt w' tX gX X)(hc:TChg del add TX X)(ha:AddOk H N del add)(hh:∀e∈add,e.hash=H key)(hd:del=[]→(seek TX.gs key (H key)).1=none)(h2:Mod [P.mb,tX,gX] w w')(h3:MetP w' P (x.add cP cnt)):
  ∃x' N',NdAt w' nb F N'∧Wr H del add N N'∧MetP w' P x'∧Cost x x' 128 0∧Mod (P.mb::F) w w':=by
 obtain⟨N',n1,n2⟩:=W.swap w' _ del add _ h1 hc ha hh hd h2 (fun q hq hqS=>by
  simp at hqS;rcases hqS with rfl|rfl|rfl
  ·exact absurd hq hF
  ·exact .inl rfl
  ·exact .inr rfl)
 exact⟨_,N',n1,n2,h3,(cost_P x cnt).mono W.cnt_ (Nat.le_refl _),h2.more fun k hk=>by
  simp at hk;rcases hk with rfl|rfl|rfl
  ·simp
  ·simp[W.inT]
  ·simp[W.inG]⟩
theorem mod_from {w:World}(hV:Below w.heap.size w V)(h:Mod S V w'):Mod S w w':=(Mod.of_below hV S).then h
theorem nd_Put_found (e:Ent)(more:Bool)(h:NdAt w nb F N)(ho:NOk H N)(hh:e.hash=H e.key)(h64:e.hash<18446744073709551616)(hv:e.val<18446744073709551616)(hM:MetP w P x)(hE:Env W0 E w)(hb0:W0.heap.size≤P.mb)(hF:P.mb∉F)(e0:Ent)(he0:e0∈N.ents)(hk:e0.key=e.key):
  Calls Tryz.prog 60 #[nodeP nb,lensV (some ⟨P.mb,P.mo,none⟩) cP,entV e,.bool more] w fun y w'=>y= .returned (.tuple #[.bool false,.nilIface])∧∃x' N',NdAt w' nb F N'∧Wr H [e0] [{e0 with val:=e.val}] N N'∧MetP w' P x'∧Cost x x' 128 0∧Mod (P.mb::F) w w':=by
 obtain⟨tX,gX,cnt,TX,W⟩:=nd_where cP e.key h ho (hh▸h64) hM hE hb0 hF;have hmt:P.mb≠tX:=fun e=>hF (e▸W.inT);have hmg:P.mb≠gX:=fun e=>hF (e▸W.inG);have hmn:P.mb≠nb:=fun e=>hF (e▸h.nb_in)
 obtain⟨i,s,hs1,hs2⟩:∃i s,(seek TX.gs e.key (H e.key)).1=some (i,s)∧slotAt TX.gs i s= .full e0:=by
  rcases W.key_ with⟨e1,he,hk',_,i,s,h1,h2⟩|⟨h1,_⟩
  ·have h3:=look_some ho.keys he;have h4:=look_some ho.keys he0;rw[hk']at h3;rw[hk,h3]at h4;cases h4;exact⟨i,s,h1,h2⟩
  ·exact absurd hk (h1 e0 he0)
 have hch:=tg_replace (v:=e.val) W.tg hs2
 have hh0:∀y∈[({e0 with val:=e.val}:Ent)],y.hash=H e.key:=fun y hy=>by
  simp at hy;subst hy;rw[←hk];exact(ho.hash e0 he0).1.hash
 rw[←hh]at hs1;rcases W.call with⟨hb,hc⟩|⟨tb,db,hb,hS⟩
 ·refine(node_Put_found nb tX gX N.pfx N.dpt N.kind TX P x cP e more w hb W.tab W.tg.ok.pow h64 hM hE hb0 hmt hmg hmn W.ne.1 W.ne.2 i s hs1 e0 hs2).mono fun y w' ⟨h1,h2,h3,h4⟩=>⟨h1,Wr.world hM hF W h2 hch (add_other ho he0 hv) hh0 (by simp) h4 (by rw[hc,←hh];exact h3)⟩
 ·rw[←hh]at hS;refine(node_Put_dual nb tb db N.pfx N.dpt N.kind P cP e more false .nilIface (fun V V'=>TabAt V' tX gX (replaceM TX i s e.val e0)∧MetP V' P (x.add cP cnt)∧Mod [P.mb,tX,gX] V V') w hb fun V hV=> ?_).mono fun y w' ⟨h1,V,hV,h2,h3,h4⟩=>⟨h1,Wr.world hM hF W h2 hch (add_other ho he0 hv) hh0 (by simp) (mod_from hV h4) h3⟩;exact dual_Put_found db tX gX cnt TX P x cP e V (hS.next hV) (W.tab.below hV) (hM.below hV).lt hmt hmg more i s hs1 e0 hs2
theorem nd_Put_new (e:Ent)(h:NdAt w nb F N)(ho:NOk H N)(he:EntOk H e)(ht:topOf e.hash N.dpt=N.pfx)(hM:MetP w P x)(hE:Env W0 E w)(hb0:W0.heap.size≤P.mb)(hF:P.mb∉F)(hk:∀y∈N.ents,y.key≠e.key)(hf:N.ents.length+1≤192)(hs:N.sl=0):
  Calls Tryz.prog 60 #[nodeP nb,lensV (some ⟨P.mb,P.mo,none⟩) cP,entV e,.bool true] w fun y w'=>y= .returned (.tuple #[.bool true,.nilIface])∧∃x' N',NdAt w' nb F N'∧Wr H [] [e] N N'∧MetP w' P x'∧Cost x x' 128 0∧Mod (P.mb::F) w w':=by
 obtain⟨tX,gX,cnt,TX,W⟩:=nd_where cP e.key h ho (he.hash▸he.h64) hM hE hb0 hF;have hmt:P.mb≠tX:=fun e=>hF (e▸W.inT);have hmg:P.mb≠gX:=fun e=>hF (e▸W.inG);have hmn:P.mb≠nb:=fun e=>hF (e▸h.nb_in)
 obtain⟨hkT,hroom⟩:(∀y∈entsT TX.gs,y.key≠e.key)∧load TX+1≤7*TX.gs.length:=by
  rcases W.key_ with⟨e1,he1,hk',_⟩|⟨_,h2,_,h3⟩
  ·exact absurd hk' (hk e1 he1)
  ·exact⟨h2,h3 hs⟩
 obtain⟨hs1,i,s,hs2,hfr⟩:=tg_free W.tg hkT (by omega);have hch:=tg_place W.tg hfr hkT;have hld:=W.tg.loadI
 have hh0:∀y∈[e],y.hash=H e.key:=fun y hy=>by simp at hy;subst hy;exact he.hash
 have hd:([]:List Ent)=[]→(seek TX.gs e.key (H e.key)).1=none:=fun _=>by rw[←he.hash];exact hs1
 rcases W.call with⟨hb,hc⟩|⟨tb,db,hb,hS⟩
 ·refine(node_Put_new nb tX gX N.pfx N.dpt N.kind TX P x cP e w hb W.tab W.tg.ok.pow he.h64 hM hE hb0 hmt hmg hmn W.ne.1 W.ne.2 hs1 i s hs2 W.tg.ok.small (by omega)).mono fun y w' ⟨h1,h2,h3,h4⟩=>⟨h1,Wr.world hM hF W h2 hch (add_new ho he ht hk hf hs) hh0 hd h4 (by rw[hc,←he.hash];exact h3)⟩
 ·rw[←he.hash]at hS;refine(node_Put_dual nb tb db N.pfx N.dpt N.kind P cP e true true .nilIface (fun V V'=>TabAt V' tX gX (placeM TX i s e)∧MetP V' P (x.add cP cnt)∧Mod [P.mb,tX,gX] V V') w hb fun V hV=> ?_).mono fun y w' ⟨h1,V,hV,h2,h3,h4⟩=>⟨h1,Wr.world hM hF W h2 hch (add_new ho he ht hk hf hs) hh0 hd (mod_from hV h4) h3⟩;exact dual_Put_new db tX gX cnt TX P x cP e V (hS.next hV) (W.tab.below hV) (hM.below hV).lt hmt hmg W.tg.ok.pow he.h64 hs1 i s hs2 W.tg.ok.small (by omega)
theorem nd_Put_full (e:Ent)(h:NdAt w nb F N)(ho:NOk H N)(hh:e.hash=H e.key)(h64:e.hash<18446744073709551616)(hM:MetP w P x)(hE:Env W0 E w)(hb0:W0.heap.size≤P.mb)(hF:P.mb∉F)(hk:∀y∈N.ents,y.key≠e.key):
  Calls Tryz.prog 60 #[nodeP nb,lensV (some ⟨P.mb,P.mo,none⟩) cP,entV e,.bool false] w fun y w'=>y= .returned (.tuple #[.bool false,errV E 2])∧∃x',MetP w' P x'∧Cost x x' 128 0∧Mod [P.mb] w w':=by
 obtain⟨tX,gX,cnt,TX,W⟩:=nd_where cP e.key h ho (hh▸h64) hM hE hb0 hF;have hmt:P.mb≠tX:=fun e=>hF (e▸W.inT);have hmg:P.mb≠gX:=fun e=>hF (e▸W.inG);have hmn:P.mb≠nb:=fun e=>hF (e▸h.nb_in)
 have hsk:(seek TX.gs e.key e.hash).1=none:=by
  rcases W.key_ with⟨e1,he1,hk',_⟩|⟨_,_,h2,_⟩
  ·exact absurd hk' (hk e1 he1)
  ·rw[hh];exact h2
 rcases W.call with⟨hb,hc⟩|⟨tb,db,hb,hS⟩
 ·exact(node_Put_full nb tX gX N.pfx N.dpt N.kind TX P x cP e w hb W.tab W.tg.ok.pow h64 hM hE hb0 hmt hmg hmn W.ne.1 W.ne.2 hsk).mono fun y w' ⟨h1,_,h3,h4⟩=>⟨h1,_,h3,(cost_P x _).mono (by rw[hh,←hc];exact W.cnt_) (Nat.le_refl _),h4⟩
 ·rw[←hh]at hS;refine(node_Put_dual nb tb db N.pfx N.dpt N.kind P cP e false false (errV E 2) (fun V V'=>MetP V' P (x.add cP cnt)∧Mod [P.mb] V V') w hb fun V hV=> ?_).mono fun y w' ⟨h1,V,hV,h3,h4⟩=>⟨h1,_,h3,(cost_P x _).mono W.cnt_ (Nat.le_refl _),mod_from hV h4⟩;exact(dual_Put_full db tX gX cnt TX P x cP e V (hS.next hV) (W.tab.below hV) (hM.below hV).lt hmt hmg (hE.next hV) hb0 hsk).mono fun y V' ⟨h1,_,h3,h4⟩=>⟨h1,h3,h4⟩
end
end
end Go.Proofs.YtchlkhkeonnmdacGreatDoor
