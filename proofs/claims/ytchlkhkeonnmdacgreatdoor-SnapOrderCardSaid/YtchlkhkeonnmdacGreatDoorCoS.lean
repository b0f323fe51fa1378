/- An append onto a row of the call's own, whose source reads as a list, nil and empty let in. No statement of the claim. -/
import Derived.Test.YtchlkhkeonnmdacGreatDoorKit2
import Derived.Maps.AppendAt
import Derived.Deep.AppendLies
import Derived.RegionTactic
import Derived.OwnWalk
import Derived.Test.YtchlkhkeonnmdacGreatDoorSqT
import Derived.Test.YtchlkhkeonnmdacGreatDoorLaneP
import Derived.Test.YtchlkhkeonnmdacGreatDoorCoB
import Derived.Test.YtchlkhkeonnmdacGreatDoorTabP
namespace Go.Proofs.YtchlkhkeonnmdacGreatDoor
set_option maxRecDepth 100000
set_option maxHeartbeats 2000000
open Go.RowKit Go.Shelf AmC Go
variable {o : Oper} {a : Act} {K : Act → World → Prop} {Q : Exit → Act → World → Prop} {ops : Array Oper} {rest : List Oper} {E : Prop} {B base bytes c m n size : Nat} {e t : TypeId} {v : Value} {news xs : List Value} {s x : Operand} {A : Option Addr}
section
variable {P : Program} (w : World)
theorem run_append_of_nil (base:Nat)(t ty e:TypeId)(i:TypeInfo)(size:Nat)(ht:P.underlying t=some (.slice e))(hi:P.info? e=some i)(v:Value)(n:Nat)(xs:List Value)(hown:w.ownsRow base e size v n xs)(c:Nat):(Builtin.append_ #[t,t] ty #[v,.slice none 0 c]).run P w= .ok v w:=by
 rcases hown.2 with⟨rfl,rfl⟩|⟨g,cap,cur,rfl,_,_,hnc,_⟩
 ·simp[Builtin.append_,run_underlying ht,sizeOf,typeInfo,hi,Builtin.lenOf,Builtin.firstCells]
 ·simp[Builtin.append_,run_underlying ht,sizeOf,typeInfo,hi,Builtin.lenOf,Builtin.firstCells,hnc,storeCells]
theorem run_append_any (base:Nat)(t ty e:TypeId)(i:TypeInfo)(z:Value)(size bytes:Nat)(ht:P.underlying t=some (.slice e))(hi:P.info? e=some i)(hz:i.zero=some z)(hsize:i.size=size)(hby:i.bytes=bytes)(hzs:z.cells.size=size)(hsz:0<size)(v:Value)(n:Nat)(xs:List Value)(hown:w.ownsRow base e size v n xs)(B:Nat)(A:Option Addr)(m c:Nat)(news:List Value)(hr:Reads w B size A m news)(h1:∀u∈news,u.oneCell'=true)(h63:n+m≤maxLen)(hbytes:(n+m)*bytes≤140737488355328)(hbase:base≤w.heap.size):
  ∃v' w',(Builtin.append_ #[t,t] ty #[v,.slice A m c]).run P w= .ok v' w'∧w'.ownsRow base e size v' (n+m) (xs++news)∧w.grownBy w' v.ownBlock∧
   (v'.ownBlock=v.ownBlock∨v'.ownBlock=some w.heap.size):=by
 rcases A with _|ad
 ·have hm:m=0:=by
   rcases Nat.eq_zero_or_pos m with h0|h0
   ·exact h0
   ·obtain⟨b,off,h,_⟩:=hr.2 h0;cases h
  subst hm;have hn:news=[]:=List.eq_nil_of_length_eq_zero (by simpa using hr.1);subst hn;exact⟨v,w,run_append_of_nil w base t ty e i size ht hi v n xs hown c,by simpa using hown,World.grownBy.refl w _,.inl rfl⟩
 ·have hcells:∀j u,news[j]?=some u→w.cell? (ad.add j)=some u:=by
   intro j u hu;rcases Nat.eq_zero_or_pos m with h0|h0
   ·subst h0;have hn:news=[]:=List.eq_nil_of_length_eq_zero (by simpa using hr.1);subst hn;simp at hu
   ·obtain⟨b,off,h,_,hc⟩:=hr.2 h0
    injection h with h
    subst h;rw[show(⟨b,off,none⟩:Addr).add j=⟨b,off+j,none⟩from by unfold Addr.add;split<;>simp_all];exact hc j u hu
  obtain⟨v',w',hrun,h2,h3,_,h5⟩:=run_append_own_at (P:=P) w base t ty e i z size bytes ht hi hz hsize hby hzs hsz v n xs hown ad m c news hr.1 hcells h1 h63 hbytes hbase;exact⟨v',w',hrun,h2,h3,h5⟩
theorem wp_append_any (s x:Operand)(t:TypeId)(ho:o.op= .call {callee:= .builtin .append,args:= #[s,x],argTypes:= #[t,t]})(base:Nat)(e:TypeId)(i:TypeInfo)(z:Value)(size bytes:Nat)(ht:P.underlying t=some (.slice e))(hi:P.info? e=some i)(hz:i.zero=some z)(hsize:i.size=size)(hby:i.bytes=bytes)(hzs:z.cells.size=size)(hsz:0<size)(v:Value)(n:Nat)(xs:List Value)(hs:a.eval s=v)(hown:w.ownsRow base e size v n xs)(B:Nat)(A:Option Addr)(m c:Nat)(news:List Value)(hx:a.eval x= .slice A m c)(hr:Reads w B size A m news)(h1:∀u∈news,u.oneCell'=true)(h63:n+m≤maxLen)(hbytes:(n+m)*bytes≤140737488355328)(hbase:base≤w.heap.size)(h:∀v' w',w'.ownsRow base e size v' (n+m) (xs++news)→w.grownBy w' v.ownBlock→(v'.ownBlock=v.ownBlock∨v'.ownBlock=some w.heap.size)→K (a.put o.dst v') w'):o.wp P a w K Q:=by
 obtain⟨v',w',hrun,h2,h3,h4⟩:=run_append_any (P:=P) w base t o.type e i z size bytes ht hi hz hsize hby hzs hsz v n xs hown B A m c news hr h1 h63 hbytes hbase;unfold Oper.wp execOp;simp only[ho,resolve,invoke,builtin,Sem.run_bind,Sem.run_pure,Result.andThen_ok,List.map_toArray,List.map_cons,List.map_nil,hs,hx,hrun];exact h v' w' h2 h3 h4
theorem wpList_append_any (hgd:o.guard=none)(s x:Operand)(t:TypeId)(ho:o.op= .call {callee:= .builtin .append,args:= #[s,x],argTypes:= #[t,t]})(base:Nat)(e:TypeId)(i:TypeInfo)(z:Value)(size bytes:Nat)(ht:P.underlying t=some (.slice e))(hi:P.info? e=some i)(hz:i.zero=some z)(hsize:i.size=size)(hby:i.bytes=bytes)(hzs:z.cells.size=size)(hsz:0<size)(v:Value)(n:Nat)(xs:List Value)(hs:a.eval s=v)(hown:w.ownsRow base e size v n xs)(B:Nat)(A:Option Addr)(m c:Nat)(news:List Value)(hx:a.eval x= .slice A m c)(hr:Reads w B size A m news)(h1:∀u∈news,u.oneCell'=true)(h63:n+m≤maxLen)(hbytes:(n+m)*bytes≤140737488355328)(hbase:base≤w.heap.size)(h:∀v' w',w'.ownsRow base e size v' (n+m) (xs++news)→w.grownBy w' v.ownBlock→(v'.ownBlock=v.ownBlock∨v'.ownBlock=some w.heap.size)→wpList P ops Q rest (a.put o.dst v') w'):wpList P ops Q (o::rest) a w:=
 wpList_plain hgd fun _ hK=>wp_append_any w s x t ho base e i z size bytes ht hi hz hsize hby hzs hsz v n xs hs hown B A m c news hx hr h1 h63 hbytes hbase fun v' w' h2 h3 h4=>hK _ _ (h v' w' h2 h3 h4)
theorem step_append_any (hgd:o.guard=none)(s x:Operand)(t:TypeId)(ho:o.op= .call {callee:= .builtin .append,args:= #[s,x],argTypes:= #[t,t]})(base:Nat)(e:TypeId)(i:TypeInfo)(z:Value)(size bytes:Nat)(ht:P.underlying t=some (.slice e))(hi:P.info? e=some i)(hz:i.zero=some z)(hsize:i.size=size)(hby:i.bytes=bytes)(hzs:z.cells.size=size)(hsz:0<size)(v:Value)(n:Nat)(xs:List Value)(hs:a.eval s=v)(hown:w.ownsRow base e size v n xs)(B:Nat)(A:Option Addr)(m c:Nat)(news:List Value)(hx:a.eval x= .slice A m c)(hr:Reads w B size A m news)(h1:∀u∈news,u.oneCell'=true)(h63:n+m≤maxLen)(hbytes:(n+m)*bytes≤140737488355328)(hbase:base≤w.heap.size)(h:∀v' w',w'.ownsRow base e size v' (n+m) (xs++news)→w.grownBy w' v.ownBlock→(v'.ownBlock=v.ownBlock∨v'.ownBlock=some w.heap.size)→K (a.put o.dst v') w'):
  if Region.wanted o (yielded ops a.tmps)=true then Oper.wp P o a w K Q else E:=by
 have hw:Region.wanted o (yielded ops a.tmps)=true:=by simp[Region.wanted,hgd]
 rw[if_pos hw];exact wp_append_any w s x t ho base e i z size bytes ht hi hz hsize hby hzs hsz v n xs hs hown B A m c news hx hr h1 h63 hbytes hbase h
end
theorem grew_of {v':Value}{w w':World}(hown:w.ownsRow base e size v n xs)(hbase:base≤w.heap.size)(hg:w.grownBy w' v.ownBlock)(hat:v'.ownBlock=v.ownBlock∨v'.ownBlock=some w.heap.size):Grew w base v w' v':=
 ⟨(Below.refl base w).grown hg hbase (fun k hk=>(hown.lt k hk).1),hg,hat.imp_right fun h=>⟨_,h,Nat.le_refl _⟩⟩
theorem step_app {P:Program}{w:World}(hgd:o.guard=none)(ho:o.op= .call {callee:= .builtin .append,args:= #[s,x],argTypes:= #[t,t]})(hT:SlTy P t e size bytes)(hown:w.ownsRow base e size v n xs)(hs:a.eval s=v)(hx:a.eval x= .slice A m c)(hr:Reads w B size A m news)(h1':(news.all fun u=>u.oneCell')=true)(hn:n+m<33554432)(hbase:base≤w.heap.size)(h:∀v' w',w'.ownsRow base e size v' (n+m) (xs++news)→Grew w base v w' v'→K (a.put o.dst v') w'):
  if Region.wanted o (yielded ops a.tmps)=true then Oper.wp P o a w K Q else E:=by
 obtain⟨i,z,ht,hi,hz,hsize,hby,hzs,hsz,hb⟩:=hT
 refine step_append_any w hgd s x t ho base e i z size bytes ht hi hz hsize hby hzs hsz v n xs hs hown B A m c news hx hr (List.all_eq_true.1 h1') (by simp only[maxLen];omega) ?_ hbase
  (fun v' w' h2 h3 h4=>h v' w' h2 (grew_of hown hbase h3 h4))
 have:(n+m)*bytes≤33554432*4096:=Nat.mul_le_mul (by omega) hb;omega
theorem wpList_app {P:Program}{w:World}(hgd:o.guard=none)(ho:o.op= .call {callee:= .builtin .append,args:= #[s,x],argTypes:= #[t,t]})(hT:SlTy P t e size bytes)(hown:w.ownsRow base e size v n xs)(hs:a.eval s=v)(hx:a.eval x= .slice A m c)(hr:Reads w B size A m news)(h1':(news.all fun u=>u.oneCell')=true)(hn:n+m<33554432)(hbase:base≤w.heap.size)(h:∀v' w',w'.ownsRow base e size v' (n+m) (xs++news)→Grew w base v w' v'→wpList P ops Q rest (a.put o.dst v') w'):wpList P ops Q (o::rest) a w:=by
 obtain⟨i,z,ht,hi,hz,hsize,hby,hzs,hsz,hb⟩:=hT
 refine wpList_append_any w hgd s x t ho base e i z size bytes ht hi hz hsize hby hzs hsz v n xs hs hown B A m c news hx hr (List.all_eq_true.1 h1') (by simp only[maxLen];omega) ?_ hbase
  (fun v' w' h2 h3 h4=>h v' w' h2 (grew_of hown hbase h3 h4))
 have:(n+m)*bytes≤33554432*4096:=Nat.mul_le_mul (by omega) hb;omega
theorem own_caps {w:World}(h:w.ownsRow base e size (.slice A n c) n xs):(A=none∧n=0∧c=0)∨∃g,A=some ⟨g,0,none⟩∧n≤c∧base≤g∧g<w.heap.size:=by
 rcases h.2 with⟨hv,hx⟩|⟨g,cap,cur,hv,hg,hh,hcap,_⟩
 ·injection hv with h1 h2 h3
  exact .inl ⟨h1,h2,h3⟩
 ·injection hv with h1 h2 h3
  subst h3;exact .inr ⟨g,h1,hcap,hg,(Array.getElem?_eq_some_iff.1 hh).1⟩
theorem reads_blk {w:World}{g:Nat}{cs:Array Value}(h:Blk w g t cs)(hl:cs.size=m*size):Reads w w.heap.size size (some ⟨g,0,none⟩) m cs.toList:=
 ⟨by simpa using hl,fun _=>⟨g,0,rfl,h.lt,fun j u hu=>by
  rw[Nat.zero_add,h.cell]
  simpa using hu⟩⟩
end Go.Proofs.YtchlkhkeonnmdacGreatDoor

/-! A view's Entries by its contract. -/
namespace Go.Proofs.YtchlkhkeonnmdacGreatDoor
set_option maxRecDepth 100000
set_option maxHeartbeats 2000000
open Go.RowKit Go.Shelf AmC Go
attribute [local go_sem] Oper.semAt_some
theorem own_base {w:World}{b b' e size n:Nat}{v:Value}{xs:List Value}(h:w.ownsRow b e size v n xs)(hb:b'≤b):w.ownsRow b' e size v n xs:=
 ⟨h.1,h.2.imp id fun⟨g,cap,cur,h1,h2,h3⟩=>⟨g,cap,cur,h1,Nat.le_trans hb h2,h3⟩⟩
theorem info_Ent:(Tryz.prog.info? 59).map (fun i=>(i.zero,i.size,i.bytes))=some (some (.agg #[.int .u64 0,.int .u64 0,.int .u64 0]),3,24):=by kernel_rfl
theorem keepsFrom_app {B base n:Nat}{V V2 w4:World}{e:TypeId}{size:Nat}{v v4:Value}{xs:List Value}(_:B≤V.heap.size)(hb:Below V.heap.size V V2)(ho:V2.ownsRow base e size v n xs)(hg:Grew V2 base v w4 v4):KeepsFrom B V w4:=by
 have h1:KeepsOthers V V2:=⟨hb.size,fun k o hk _=>(hb.block k (Array.getElem?_eq_some_iff.1 hk).1).trans hk⟩
 have h2:KeepsOthers V2 w4:=KeepsOthers.of_grownBy hg.by_ (fun j o hj ho'=>by
  rcases ho.2 with⟨rfl,_⟩|⟨g,cap,cur,rfl,_,hh,_⟩
  ·simp[Value.ownBlock]at hj
  ·have:g=j:=by simpa[Value.ownBlock]using hj
   subst this;rw[hh]at ho'
   cases ho';rfl)
 exact(h1.trans h2).from B
theorem slty_Ent:SlTy Tryz.prog 54 59 3 24:=slTy Tryz.underlying54 info_Ent rfl (by decide) (by decide)
def entsR (l:List Nat)(es:List Ent):List Ent:=(lanesFrom 0 (fullL l)).map fun i=>es.getD i ⟨0,0,0⟩
def atR (es:List Ent)(pre:List (Fin 8)):List Ent:=pre.map fun x=>es.getD x.val ⟨0,0,0⟩
theorem marks_full (l:List Nat):Marks (fullL l):=marks_top _
theorem full_length (l:List Nat):(fullL l).length=l.length:=by simp[fullL,notL]
theorem entsR_of {l:List Nat}{es:List Ent}{ys:List (Fin 8)}(hys:ys.map Fin.val=lanesFrom 0 ((fullL l).map topB)):atR es ys=entsR l es:=by
 rw[top_marks (marks_full l)]at hys;unfold entsR atR;rw[←hys,List.map_map];rfl
theorem atR_snoc (es:List Ent)(pre:List (Fin 8))(x:Fin 8):(atR es (pre++[x])).flatMap entCells=(atR es pre).flatMap entCells++entCells (es.getD x.val ⟨0,0,0⟩):=by simp[atR]
theorem view_Entries (gb:Nat)(t:TypeId)(ahead post:List Value)(go:Nat)(l:List Nat)(es:List Ent)(w:World)(h:GRaw w gb t ahead post go l es)(hT:TzIn w):
  Calls Tryz.prog 201 #[viewV ⟨gb,go,none⟩] w fun e w'=>∃A c,e= .returned (.slice A (entsR l es).length c)∧w'.ownsRow w.heap.size 59 3 (.slice A (entsR l es).length c) (entsR l es).length ((entsR l es).flatMap entCells)∧Below w.heap.size w w':=by
 obtain⟨W,hW,hB,hV,hO⟩:=qX2 w 181 #[.pointer (some ⟨gb,go,none⟩)] 54 #[.slice none 0 0];have hG:=h.below hB;have HF:=qd (ctrl_Fulls l h.l8 h.bytes);have HW:=qd hW;have HB:=qd hB;have hg:=World.block_lt_of_cell? w _ (hT 0 (by omega));have hl8:=h.l8;unfold viewV;clear hW hB;refine(callsIn_wide (n:=10)).1 ?_
 have h1:1≤10:=by omega
 refine callsIn_of_wp_calm Tryz.func201 rfl trivial rfl ?_;simp only[Tryz.ntmps201,List.size_toArray,List.length_cons,List.length_nil,Nat.reduceAdd,Nat.reduceSub,Array.replicate_succ,Array.replicate_zero,List.push_toArray,List.append_toArray,List.nil_append,List.cons_append];refine wpIn_wide.2 ?_;go_upto_region 2 with fail;rw[←HW.out];have v0:=hV.cell 0;simp only[List.getElem?_toArray,List.getElem?_cons_zero]at v0;have hw:=hG.word;go_wp2_with fail;refine(HF.out _).mono ?_;rintro e w1 ⟨rfl,rfl⟩;go_wp2_with fail;refine(swar_Lanes (fullL l) _).mono ?_;rintro e w1 ⟨rfl,hw1⟩;have hb1:Below W.heap.size W w1:=hw1▸(Below.refl W.heap.size W).alloc (Nat.le_refl _) _;have hL1:Blk w1 W.heap.size 27 #[.int .u64 ((w8 (fullL l):Nat):Int)]:=hw1▸Blk.new W _ _;clear hw1;replace v0:=cell_in hb1 v0;replace hw:=cell_in hb1 hw;go_wp2_with fail;refine(wpIn_wide (n:=10)).1 ?_;have hB1:Below w.heap.size w w1:=below_nx hb1 HB.out;have hlt3:w.heap.size+1<W.heap.size:=hO.lt;have hgl:gb<w.heap.size:=h.lt;have hT1:TzIn w1:=fun i hi=>(hB1.cell (p:=⟨13,tzIdx i,none⟩) hg).trans (hT i hi);have hG1:=hG.below hb1;have hO1:Boxed w1 (w.heap.size+1) 54 (.slice none 0 0):=hO.below hb1 hO.lt;have hbl:=hB1.size;have hbs:=hb1.size;clear h
 refine wpIn_rangeFunc_ownH rfl h1 (gf:=207) (lb:= #[.pointer (some ⟨W.heap.size,0,none⟩)]) rfl trivial (enters_of Tryz.func207 (by kernel_rfl) rfl)
  (lanes_stops (10-1) (by omega) W.heap.size w1.heap.size [w.heap.size+1] (fullL l) (by rw[full_length];exact hl8) (marks_full l).bytes w1 (by omega) (by simp;omega) (Nat.le_refl _) hL1.lt (hL1.cell 0) hT1) keepS_t (keepS_b (Nat.le_refl _)) (Below.refl _ _) (fun _=>rfl)
  (fun pre V=>(∃v,Boxed V (w.heap.size+1) 54 v∧V.ownsRow w1.heap.size 59 3 v pre.length ((atR es pre).flatMap entCells)∧True)∧KeepS w1.heap.size [w.heap.size+1] w1 V)
  (fun _ _ _=>False)
  (OwnFrom.and (Own.from (holdsRow_own w1.heap.size (w.heap.size+1) 54 59 3 List.length (fun pre=>(atR es pre).flatMap entCells) (fun _ _=>True)) _) (ownFrom_keepS (Nat.le_refl _) (Nat.le_refl _)))
  (fun _ _ _ _ _ hs _ _=>hs)
  ⟨⟨_,hO1,⟨by simp[atR],.inl ⟨rfl,rfl⟩⟩,trivial⟩,KeepS.refl _ _ _⟩
  (fun x a' _=>a'={tmps:= #[.agg #[.pointer (some ⟨gb,go,none⟩)],.pointer (some ⟨w.heap.size,0,none⟩),.slice none 0 0,.pointer (some ⟨w.heap.size+1,0,none⟩),.int .i64 (x.val:Int),.pointer (some ⟨w.heap.size,0,none⟩),.pointer (some ⟨gb,go,none⟩),.pointer (some ⟨gb,go,none⟩),.pointer (some ⟨gb,go,none⟩),.int .u64 ((w8 l:Nat):Int),.int .u64 ((w8 (fullL l):Nat):Int),.func (.func 207) #[] #[.pointer (some ⟨W.heap.size,0,none⟩)],.int .i64 (x.val:Int),undef,undef,undef,undef,undef,undef,undef,undef,undef,undef,undef],defers:=[]})
  (fun _ _ _ _ _ _ hs _ _=>hs) ?assign ?body ?done ?stop
 case assign=>
  rintro lp pre x V K hi hK
  gi_wp2
  exact hK _ _ (KeepsFrom.refl _ _) (KeepS.refl _ _ _) hi rfl
 case body=>
  rintro lp pre x a' V hl ⟨r,hr⟩ ⟨⟨v,hOB,hO,-⟩,hKS⟩ rfl hlt;have hx8:x.val<8:=x.isLt;have hgb1:gb<w1.heap.size:=hG1.lt
  have hgn:gb∉[w.heap.size+1]:=by simp;omega
  have hv:=(hKS.cell (p:=⟨w.heap.size,0,none⟩) (by show w.heap.size<_;omega) (by simp)).trans v0;have hGV:GRaw V gb t ahead post go l es:=⟨hG1.len,hG1.l8,hG1.bytes,hG1.e8,hKS.blk hG1.blk hgb1 hgn⟩;obtain⟨A,c,rfl⟩:=own_form hO;have ho:=hOB.cell;have s0:=hGV.at_ x.val 0 hx8 (by omega);have s1:=hGV.at_ x.val 1 hx8 (by omega);have s2:=hGV.at_ x.val 2 hx8 (by omega);rw[Nat.add_zero]at s0
  have hxi:(x.val:Int)<8:=by omega
  have hx0:(0:Int)≤(x.val:Int):=by omega
  have HSn:=qd (atR_snoc es pre x);have hVs:=hKS.size;clear hGV;generalize es.getD x.val ⟨0,0,0⟩=x1 at*;simp only[entCells,List.getElem?_cons_zero,List.getElem?_cons_succ]at s0 s1 s2
  gi_wp2_with fail
  refine region_I (fun(w':World)=>w'.cell? ⟨w.heap.size,0,none⟩=some (.pointer (some ⟨gb,go,none⟩))∧w'.cell? ⟨w.heap.size+1,0,none⟩=some (.slice A pre.length c)∧w'.cell? ⟨gb,go+1+x.val*3,none⟩=some (.int .u64 (x1.key:Int))∧w'.cell? ⟨gb,go+1+x.val*3+1,none⟩=some (.int .u64 (x1.val:Int))∧w'.cell? ⟨gb,go+1+x.val*3+2,none⟩=some (.int .u64 (x1.hash:Int))) [9,10] (by kernel_rfl) (by kernel_rfl) (by rintro⟨_,_,h⟩;exact h) ?_
  try (change wpAnyT _ _ _ _ _ _ _ _ _ (World.drew _))
  have hHeld:=(⟨hv,ho,s0,s1,s2⟩:_∧_∧_∧_∧_);refine vT 0 rfl ?_;refine vW 1 rfl ?_;refine vW 3 rfl ?_;refine nT 2 rfl fun K hK=> ?_;go_simp;refine kO hK ?_;clear hK K;refine vW 4 rfl ?_;refine vW 5 rfl ?_;refine vW 6 rfl ?_;refine vT 7 rfl ?_;refine nT 8 rfl fun K hK=> ?_;go_simp;have hb2:Below V.heap.size V (V.alloc (.cells #[.int .u64 (x1.key:Int),.int .u64 (x1.val:Int),.int .u64 (x1.hash:Int)] 59)).drew:=((Below.refl V.heap.size V).alloc (Nat.le_refl _) _).drew;obtain⟨V2,hV2⟩:∃V2,V2=(V.alloc (.cells #[.int .u64 (x1.key:Int),.int .u64 (x1.val:Int),.int .u64 (x1.hash:Int)] 59)).drew:=⟨_,rfl⟩;have hN2:Blk V2 V.heap.size 59 #[.int .u64 (x1.key:Int),.int .u64 (x1.val:Int),.int .u64 (x1.hash:Int)]:=hV2▸(Blk.new V _ _).drew;have hO2:V2.ownsRow w1.heap.size 59 3 (.slice A pre.length c) pre.length ((atR es pre).flatMap entCells):=own_below hO (hV2▸hb2) (Nat.le_refl _);rw[←hV2]at hb2⊢;clear hV2;have hHeld:=(⟨cell_in hb2 hv,cell_in hb2 ho,cell_in hb2 s0,cell_in hb2 s1,cell_in hb2 s2⟩:_∧_∧_∧_∧_);refine kO hK ?_;clear hK K;refine nT 9 rfl fun K hK=> ?_;refine step_app (by rfl) (by rfl) slty_Ent hO2 (by rfl) (by rfl) (reads_blk (size:=3) (m:=1) hN2 (by rfl)) (by rfl) (by omega) (by have:=hb2.size;have:=hVs;omega) ?_;intro v4 w4 hown4 hgr4;obtain⟨A4,c4,rfl⟩:=own_form hown4;have hox:Boxed w4 (w.heap.size+1) 54 (.slice A pre.length c):=(hgr4.below.block _ (by omega)).trans ((hb2.block _ hOB.lt).trans hOB);have o4:=hox.cell
  have f4:=hox.frozen;have hK4:KeepS w1.heap.size [w.heap.size+1] w1 w4:=keepS_t hKS (keepS_t ((Mod.of_below hb2 _).keepS hVs) (KeepS.of_below hgr4.below));have hKF4:KeepsFrom w1.heap.size V w4:=keepsFrom_app hVs hb2 hO2 hgr4;refine kO hK ?_;clear hK K;refine nT 10 rfl fun K hK=> ?_;go_simp;refine kO hK ?_;clear hK K;refine doneT (by kernel_rfl) ?_ _;have hfin:Boxed (w4.setCell ⟨w.heap.size+1,0,none⟩ (.slice A4 (pre.length+1) c4)) (w.heap.size+1) 54 (.slice A4 (pre.length+1) c4):=hox.set _
  have hne4:(Value.slice A4 (pre.length+1) c4).ownBlock≠some (w.heap.size+1):=fun he=>by
   have:=(hown4.lt _ he).1;omega
  have hown5:=hown4.kept (grownBy_setCell' w4 (w.heap.size+1) (.slice A4 (pre.length+1) c4)) (.inr hne4);have hKF5:=hKF4.trans ((KeepsOthers.setCell w4 ⟨w.heap.size+1,0,none⟩ (.slice A4 (pre.length+1) c4)).from _);have hK5:KeepS w1.heap.size [w.heap.size+1] w1 (w4.setCell ⟨w.heap.size+1,0,none⟩ (.slice A4 (pre.length+1) c4)):=hK4.set_ (.inl (by simp)) _ _;have hKp:KeepS w1.heap.size [w.heap.size+1] V (w4.setCell ⟨w.heap.size+1,0,none⟩ (.slice A4 (pre.length+1) c4)):=(keepS_t ((Mod.of_below hb2 _).keepS hVs) (KeepS.of_below hgr4.below)).set_ (.inl (by simp)) _ _;have HE:=qd (And.intro hKF5 (And.intro hKp (And.intro (And.intro hfin hown5) hK5)));clear hKF5 hKp hfin hown5 hK5 hKF4 hK4 hown4 hgr4 hox
  gi_wp2
  exact⟨HE.out.1,HE.out.2.1,⟨_,HE.out.2.2.1.1,by rw[HSn.out,List.length_append];exact HE.out.2.2.1.2⟩,HE.out.2.2.2⟩
 case done=>
  rintro D ys V hD hys ⟨⟨v,hOB,hO,-⟩,hKS⟩ hKD;obtain⟨A,c,rfl⟩:=own_form hO;have ho:=hOB.cell
  have hlen:ys.length=(entsR l es).length:=by rw[←entsR_of hys];simp[atR]
  rw[entsR_of hys,hlen]at hO;rw[hlen]at hOB ho;have hKm:=(Mod.of_below hB1 [w.heap.size+1]).then hKS.mod;have HOw:=qd hO;clear hO;go_wp2;refine leavesM ⟨by simp,.inl ⟨_,_,rfl,run_takeDeferred hKD, ?_⟩⟩;refine⟨.slice A (entsR l es).length c, ?_,A,c,rfl, ?_, ?_⟩
  ·simp[results,Tryz.f201,go_sem]
  ·exact own_base (ownsRow_putObj HOw.out _ hKD rfl) (by omega)
  ·exact(hKm.below (by simp) (Nat.le_refl _)).trans (belowK_b (w:=w) (Nat.le_refl _) V D _ _ (by omega) hKD rfl rfl)
 case stop=>
  rintro D c pre V hD hS hI;exact hI.elim
end Go.Proofs.YtchlkhkeonnmdacGreatDoor

/-! A group as slots and as bytes: what the lanes tell of the slots. No program in sight. -/
namespace Go.Proofs.YtchlkhkeonnmdacGreatDoor.AmC
set_option maxRecDepth 100000
set_option maxHeartbeats 2000000
open Go.RowKit Go.Shelf AmC Go
def Slot.ent:Slot→Ent
 | .full e=>e
 |_=>⟨0,0,0⟩
theorem eqB_128 (h b:Nat):eqB h b=128↔b=h:=by unfold eqB;split<;>simp_all
theorem byte_key (x:Slot)(h:Nat)(hh:h<128):x.byte=h↔∃e,x= .full e∧e.hash % 128=h:=by
 cases x with
 |empty=>simp[Slot.byte];omega
 |tomb=>simp[Slot.byte];omega
 |full e=>simp[Slot.byte]
theorem lanes_find (key hash:Nat)(f:Nat→Ent):∀(G:Grp) (s:Nat),(∀k x,G[k]?=some x→f (s+k)=x.ent)→
  (lanesFrom s (G.map fun x=>eqB (hash % 128) x.byte)).find? (fun i=>(f i).key==key)=(findG G key hash).map (s+·)
 | [],_,_=>rfl
 |x::G,s,hf=>by
  have ih:=lanes_find key hash f G (s+1) (fun k y hy=>by have:=hf (k+1) y (by simpa using hy);rwa [show s+(k+1)=s+1+k by omega]at this);have h0:f s=x.ent:=hf 0 x rfl
  have hm:(findG G key hash).map (s+1+·)=((findG G key hash).map (·+1)).map (s+·):=by
   cases findG G key hash with
   |none=>rfl
   |some k=>simp;omega
  rw[List.map_cons,lanesFrom];unfold findG at ih hm⊢;rw[List.findIdx?_cons];by_cases hx:x.byte=hash % 128
  ·obtain⟨e,rfl,he⟩:=(byte_key x _ (by omega)).1 hx;rw[if_pos ((eqB_128 _ _).2 hx),List.find?_cons,h0];by_cases hk:e.key=key
   ·have:Slot.isKey key hash (.full e)=true:=by simp[Slot.isKey,he,hk]
    rw[this];simp[Slot.ent,hk]
   ·have:Slot.isKey key hash (.full e)=false:=by simp[Slot.isKey,hk]
    rw[this]
    have h1:((Slot.ent (.full e)).key==key)=false:=by simpa[Slot.ent]using hk
    rw[h1];simp only[Bool.false_eq_true,if_false];rw[ih,hm]
  ·have:Slot.isKey key hash x=false:=by
    cases x with
    |empty=>rfl
    |tomb=>rfl
    |full e=>simp[Slot.byte]at hx;simp[Slot.isKey,hx]
   rw[if_neg (fun h=>hx ((eqB_128 _ _).1 h)),this,ih,hm];simp
theorem free_lane (x:Slot):topB x.byte=128↔x.isFull=false:=by
 cases x with
 |empty=>simp[Slot.byte,topB,Slot.isFull]
 |tomb=>simp[Slot.byte,topB,Slot.isFull]
 |full e=>
  have:=Nat.mod_lt e.hash (show 0<128 by omega)
  have h1:topB (e.hash % 128)=0:=by unfold topB;rw[if_pos this]
  show topB (e.hash % 128)=128↔_;rw[h1];simp[Slot.isFull]
theorem first_free (G:Grp):firstM ((G.map Slot.byte).map topB)=freeG G:=by
 unfold firstM freeG;rw[List.map_map,List.findIdx?_map];congr 1;funext x;rw[Bool.eq_iff_iff];simp[free_lane]
theorem any_open (G:Grp):(G.map Slot.byte).any (·==128)=openG G:=by
 unfold openG;rw[List.any_map];congr 1;funext x
 cases x with
 |empty=>rfl
 |tomb=>rfl
 |full e=>simp[Slot.byte,Slot.isEmpty];omega
theorem lanes_ents (f:Nat→Ent):∀(G:Grp) (s:Nat),(∀k x,G[k]?=some x→f (s+k)=x.ent)→(lanesFrom s (G.map fun x=>topB (255-x.byte))).map f=entsG G
 | [],_,_=>rfl
 |x::G,s,hf=>by
  have ih:=lanes_ents f G (s+1) (fun k y hy=>by have:=hf (k+1) y (by simpa using hy);rwa [show s+(k+1)=s+1+k by omega]at this);have h0:f s=x.ent:=hf 0 x rfl
  have hg:entsG (x::G)=x.ents++entsG G:=by simp[entsG]
  rw[List.map_cons,lanesFrom,hg]
  cases x with
  |empty=>rw[if_neg (by simp[Slot.byte,topB]),ih];rfl
  |tomb=>rw[if_neg (by simp[Slot.byte,topB]),ih];rfl
  |full e=>
   have h1:topB (255-e.hash % 128)=128:=by unfold topB;rw[if_neg (by omega)]
   rw[if_pos (show topB (255-(Slot.full e).byte)=128 from h1),List.map_cons,ih,h0];rfl
theorem bytes_set (G:Grp)(i:Nat)(x:Slot):(G.set i x).map Slot.byte=(G.map Slot.byte).set i x.byte:=List.map_set
theorem ents_set_slot (G:Grp)(i:Nat)(x:Slot):(G.set i x).map Slot.ent=(G.map Slot.ent).set i x.ent:=List.map_set
theorem ent_getD (G:Grp)(i:Nat):(G.map Slot.ent).getD i ⟨0,0,0⟩=(G.getD i .empty).ent:=by
 rw[List.getD_eq_getElem?_getD,List.getD_eq_getElem?_getD,List.getElem?_map]
 cases G[i]?<;>rfl
theorem byte_getD (G:Grp)(i:Nat)(hi:i<G.length):(G.map Slot.byte).getD i 0=(G.getD i .empty).byte:=by
 rw[List.getD_eq_getElem?_getD,List.getD_eq_getElem?_getD,List.getElem?_map,List.getElem?_eq_getElem hi];rfl
theorem full_byte (x:Slot):x.byte<128↔x.isFull=true:=by
 cases x with
 |empty=>simp[Slot.byte,Slot.isFull]
 |tomb=>simp[Slot.byte,Slot.isFull]
 |full e=>simp[Slot.byte,Slot.isFull];omega
theorem tomb_byte (x:Slot)(h:x.isFull=false):(x.byte==254)=x.isTomb:=by
 cases x with
 |empty=>rfl
 |tomb=>rfl
 |full e=>cases h
end Go.Proofs.YtchlkhkeonnmdacGreatDoor.AmC

/-! A group of slots in memory: its view's functions, told of slots. -/
namespace Go.Proofs.YtchlkhkeonnmdacGreatDoor
set_option maxRecDepth 100000
set_option maxHeartbeats 2000000
open Go.RowKit Go.Shelf AmC Go
def GAt (w:World)(gb:Nat)(t:TypeId)(pre post:List Value)(go:Nat)(G:Grp):Prop:=GRaw w gb t pre post go (G.map Slot.byte) (G.map Slot.ent)
section
variable {w w' : World} {gb go : Nat} {t : TypeId} {pre post : List Value} {G : Grp}
theorem GAt.len8 (h:GAt w gb t pre post go G):G.length=8:=by have:=h.l8;simpa using this
theorem GAt.lt (h:GAt w gb t pre post go G):gb<w.heap.size:=h.blk.lt
theorem GAt.mod {S:List Nat}(h:GAt w gb t pre post go G)(hm:Mod S w w')(hg:gb∉S):GAt w' gb t pre post go G:=GRaw.mod h hm hg
instance {w w':World}{gb:Nat}{t:TypeId}{pre post:List Value}{go:Nat}{G:Grp}:Md (GAt w gb t pre post go G) w w' (GAt w' gb t pre post go G) (fun S=>gb∉S):=⟨fun h hm hs=>GAt.mod h hm hs⟩
theorem GAt.below (h:GAt w gb t pre post go G)(hb:Below w.heap.size w w'):GAt w' gb t pre post go G:=GRaw.below h hb
theorem GAt.keep {n₀:Nat}{S:List Nat}(h:GAt w gb t pre post go G)(hm:KeepS n₀ S w w')(hn:gb<n₀)(hg:gb∉S):GAt w' gb t pre post go G:=⟨h.len,h.l8,h.bytes,h.e8,hm.blk h.blk hn hg⟩
end
section
variable (gb : Nat) (t : TypeId) (pre post : List Value) (go : Nat) (G : Grp) (w : World) (h : GAt w gb t pre post go G)
include h
theorem lane_lt (i:Nat)(hi:i<8):(G.map Slot.byte).getD i 0<128↔(G.getD i .empty).isFull=true:=by
 rw[byte_getD G i (by rw[h.len8];exact hi),full_byte]
theorem grp_Find (key hash:Nat)(h64:hash<18446744073709551616)(hT:TzIn w):
  Calls Tryz.prog 126 #[viewV ⟨gb,go,none⟩,.int .u64 (key:Int),.int .u64 (hash:Int)] w fun e w'=>e= .returned (.int .i64 (optI (findG G key hash)))∧Below w.heap.size w w':=by
 have:=view_Find gb t pre post go _ _ key hash h64 w h hT;unfold findR at this;rw[List.map_map]at this
 have he:=lanes_find key hash (fun i=>(G.map Slot.ent).getD i ⟨0,0,0⟩) G 0 (fun k x hk=>by
  rw[Nat.zero_add,ent_getD,List.getD_eq_getElem?_getD,hk];rfl)
 have hm:(findG G key hash).map (0+·)=findG G key hash:=by cases findG G key hash<;>simp
 rw[hm]at he;rw[show(lanesFrom 0 (List.map (eqB (hash % 128)∘Slot.byte) G))=lanesFrom 0 (G.map fun x=>eqB (hash % 128) x.byte)from rfl,he]at this;exact this
theorem grp_Free (hT:TzIn w):Calls Tryz.prog 125 #[viewV ⟨gb,go,none⟩] w fun e w'=>e= .returned (.int .i64 (optI (freeG G)))∧Below w.heap.size w w':=by
 have:=view_Free gb t pre post go _ _ w h hT
 rwa [first_free]at this
theorem grp_Open:Calls Tryz.prog 127 #[viewV ⟨gb,go,none⟩] w fun e w'=>e= .returned (.bool (openG G))∧Below w.heap.size w w':=by
 have:=view_Open gb t pre post go _ _ w h
 rwa [any_open]at this
theorem grp_At_full (i:Nat)(hi:i<8)(e:Ent)(he:G.getD i .empty= .full e):
  Calls Tryz.prog 128 #[viewV ⟨gb,go,none⟩,.int .i64 (i:Int)] w fun x w'=>x= .returned (.tuple #[entV e,.bool true])∧Below w.heap.size w w':=by
 have:=view_At_full gb t pre post go _ _ i hi w h ((lane_lt gb t pre post go G w h i hi).2 (by rw[he];rfl))
 rwa [ent_getD,he]at this
theorem grp_At_no (i:Nat)(hi:i<8)(he:(G.getD i .empty).isFull=false)(E:Nat→Addr)(hE:ErrAt E w 5):
  Calls Tryz.prog 128 #[viewV ⟨gb,go,none⟩,.int .i64 (i:Int)] w fun x w'=>x= .returned (.tuple #[entV ⟨0,0,0⟩,.bool false])∧Below w.heap.size w w':=
 view_At_no gb t pre post go _ _ i hi w h (fun hl=>by rw[(lane_lt gb t pre post go G w h i hi).1 hl]at he;cases he) E hE
theorem grp_Put (i:Nat)(hi:i<8)(e:Ent)(h64:e.hash<18446744073709551616)(he:(G.getD i .empty).isFull=false):
  Calls Tryz.prog 131 #[viewV ⟨gb,go,none⟩,.int .i64 (i:Int),entV e] w fun x w'=>x= .returned (.tuple #[.bool (G.getD i .empty).isTomb,.nilIface])∧GAt w' gb t pre post go (G.set i (.full e))∧Mod [gb] w w':=by
 have:=view_Put gb t pre post go _ _ i hi e h64 w h (fun hl=>by rw[(lane_lt gb t pre post go G w h i hi).1 hl]at he;cases he);rw[byte_getD G i (by rw[h.len8];exact hi),tomb_byte _ he]at this;refine this.mono fun x w' ⟨h1,h2,h3⟩=>⟨h1, ?_,h3⟩;unfold GAt;rw[bytes_set,ents_set_slot];exact h2
theorem grp_Set (i:Nat)(hi:i<8)(v:Nat)(e:Ent)(he:G.getD i .empty= .full e):
  Calls Tryz.prog 129 #[viewV ⟨gb,go,none⟩,.int .i64 (i:Int),.int .u64 (v:Int)] w fun x w'=>x= .returned .nilIface∧GAt w' gb t pre post go (G.set i (.full {e with val:=v}))∧Mod [gb] w w':=by
 have hl8:i<G.length:=by rw[h.len8];exact hi
 have:=view_Set gb t pre post go _ _ i hi v w h ((lane_lt gb t pre post go G w h i hi).2 (by rw[he];rfl));rw[ent_getD,he]at this;refine this.mono fun x w' ⟨h1,h2,h3⟩=>⟨h1, ?_,h3⟩;unfold GAt;rw[bytes_set,ents_set_slot]
 have hb:(G.map Slot.byte).set i (Slot.full {e with val:=v}).byte=G.map Slot.byte:=by
  apply List.ext_getElem?;intro k;rw[List.getElem?_set];split
  ·next hk=>
   subst hk;rw[if_pos (by simpa using hl8),List.getElem?_map,List.getElem?_eq_getElem hl8]
   have:G[i]= .full e:=by rw[←he,AmC.getD_in hl8]
   rw[this];rfl
  ·rfl
 rw[hb];exact h2
theorem grp_Erase (i:Nat)(hi:i<8)(e:Ent)(he:G.getD i .empty= .full e):
  Calls Tryz.prog 272 #[viewV ⟨gb,go,none⟩,.int .i64 (i:Int)] w fun x w'=>x= .returned (.tuple #[.bool !(openG G),.nilIface])∧GAt w' gb t pre post go (G.set i (if openG G then .empty else .tomb))∧Mod [gb] w w':=by
 have hm:=(lane_lt gb t pre post go G w h i hi).2 (by rw[he];rfl)
 cases ho:openG G with
 |true=>
  refine(view_Erase_open gb t pre post go _ _ i hi w h hm (by rw[any_open];exact ho)).mono fun x w' ⟨h1,h2,h3⟩=>⟨h1, ?_,h3⟩;unfold GAt;rw[bytes_set,ents_set_slot];exact h2
 |false=>
  refine(view_Erase_shut gb t pre post go _ _ i hi w h hm (by rw[any_open];exact ho)).mono fun x w' ⟨h1,h2,h3⟩=>⟨h1, ?_,h3⟩;unfold GAt;rw[bytes_set,ents_set_slot];exact h2
theorem grp_Clear:Calls Tryz.prog 119 #[viewV ⟨gb,go,none⟩] w fun x w'=>x= .returned undef∧GAt w' gb t pre post go (List.replicate 8 .empty)∧Mod [gb] w w':=view_Clear gb t pre post go _ _ w h
theorem grp_Entries (hT:TzIn w):Calls Tryz.prog 201 #[viewV ⟨gb,go,none⟩] w fun e w'=>∃A c,e= .returned (.slice A (entsG G).length c)∧
  w'.ownsRow w.heap.size 59 3 (.slice A (entsG G).length c) (entsG G).length ((entsG G).flatMap entCells)∧Below w.heap.size w w':=by
 have:=view_Entries gb t pre post go _ _ w h hT
 have he:entsR (G.map Slot.byte) (G.map Slot.ent)=entsG G:=by
  unfold entsR fullL notL;rw[List.map_map,List.map_map];exact lanes_ents _ G 0 (fun k x hk=>by rw[Nat.zero_add,ent_getD,List.getD_eq_getElem?_getD,hk];rfl)
 rwa [he]at this
end
end Go.Proofs.YtchlkhkeonnmdacGreatDoor
