/- An append onto a row of the call's own, whose source reads as a list, nil and empty let in. No statement of the claim. -/
import Derived.Test.YtgkeameopnpinaaGreatDoorKit2
import Derived.Test.YtgkeameopnpinaaGreatDoorLaneP
import Derived.Maps.AppendAt
import Derived.Deep.AppendLies
import Derived.RegionTactic
import Derived.OwnWalk
import Derived.Test.YtgkeameopnpinaaGreatDoorCoO
import Derived.Test.YtgkeameopnpinaaGreatDoorSqM
import Derived.Test.YtgkeameopnpinaaGreatDoorTabP
import Derived.BigRegion
namespace Go.Proofs.YtgkeameopnpinaaGreatDoor
set_option maxRecDepth 100000
set_option maxHeartbeats 2000000
open Go.RowKit Go.Shelf bY Go
variable {o : Oper} {a : Act} {K : Act → World → Prop} {Q : Exit → Act → World → Prop} {ops : Array Oper} {rest : List Oper} {E : Prop} {B base bytes c m n size : Nat} {e t : TypeId} {v : Value} {news xs : List Value} {s x : Operand} {A : Option Addr}
section
variable {P : Program} (w : World)
theorem CY (base:Nat)(t ty e:TypeId)(i:TypeInfo)(size:Nat)(ht:P.underlying t=some (.slice e))(hi:P.info? e=some i)(v:Value)(n:Nat)(xs:List Value)(hown:w.ownsRow base e size v n xs)(c:Nat):(Builtin.append_ #[t,t] ty #[v,.slice none 0 c]).run P w= .ok v w:=by
 rcases hown.2 with⟨rfl,rfl⟩|⟨g,cap,cur,rfl,_,_,hnc,_⟩
 ·simp[Builtin.append_,run_underlying ht,sizeOf,typeInfo,hi,Builtin.lenOf,Builtin.firstCells]
 ·simp[Builtin.append_,run_underlying ht,sizeOf,typeInfo,hi,Builtin.lenOf,Builtin.firstCells,hnc,storeCells]
theorem GJ (base:Nat)(t ty e:TypeId)(i:TypeInfo)(z:Value)(size bytes:Nat)(ht:P.underlying t=some (.slice e))(hi:P.info? e=some i)(hz:i.zero=some z)(hsize:i.size=size)(hby:i.bytes=bytes)(hzs:z.cells.size=size)(hsz:0<size)(v:Value)(n:Nat)(xs:List Value)(hown:w.ownsRow base e size v n xs)(B:Nat)(A:Option Addr)(m c:Nat)(news:List Value)(hr:Reads w B size A m news)(h1:∀u∈news,u.oneCell'=true)(h63:n+m≤maxLen)(hbytes:(n+m)*bytes≤140737488355328)(hbase:base≤w.heap.size):
  ∃v' w',(Builtin.append_ #[t,t] ty #[v,.slice A m c]).run P w= .ok v' w'∧w'.ownsRow base e size v' (n+m) (xs++news)∧w.grownBy w' v.ownBlock∧
   (v'.ownBlock=v.ownBlock∨v'.ownBlock=some w.heap.size):=by
 rcases A with _|ad
 ·have hm:m=0:=by
   rcases Nat.eq_zero_or_pos m with h0|h0
   ·exact h0
   ·obtain⟨b,off,h,_⟩:=hr.2 h0;cases h
  subst hm;have hn:news=[]:=List.eq_nil_of_length_eq_zero (by simpa using hr.1);subst hn;exact⟨v,w,CY w base t ty e i size ht hi v n xs hown c,by simpa using hown,World.grownBy.refl w _,.inl rfl⟩
 ·have hcells:∀j u,news[j]?=some u→w.cell? (ad.add j)=some u:=by
   intro j u hu;rcases Nat.eq_zero_or_pos m with h0|h0
   ·subst h0;have hn:news=[]:=List.eq_nil_of_length_eq_zero (by simpa using hr.1);subst hn;simp at hu
   ·obtain⟨b,off,h,_,hc⟩:=hr.2 h0
    injection h with h
    subst h;rw[show(⟨b,off,none⟩:Addr).add j=⟨b,off+j,none⟩from by unfold Addr.add;split<;>simp_all];exact hc j u hu
  obtain⟨v',w',hrun,h2,h3,_,h5⟩:=run_append_own_at (P:=P) w base t ty e i z size bytes ht hi hz hsize hby hzs hsz v n xs hown ad m c news hr.1 hcells h1 h63 hbytes hbase;exact⟨v',w',hrun,h2,h3,h5⟩
theorem Ao (s x:Operand)(t:TypeId)(ho:o.op= .call {callee:= .builtin .append,args:= #[s,x],argTypes:= #[t,t]})(base:Nat)(e:TypeId)(i:TypeInfo)(z:Value)(size bytes:Nat)(ht:P.underlying t=some (.slice e))(hi:P.info? e=some i)(hz:i.zero=some z)(hsize:i.size=size)(hby:i.bytes=bytes)(hzs:z.cells.size=size)(hsz:0<size)(v:Value)(n:Nat)(xs:List Value)(hs:a.eval s=v)(hown:w.ownsRow base e size v n xs)(B:Nat)(A:Option Addr)(m c:Nat)(news:List Value)(hx:a.eval x= .slice A m c)(hr:Reads w B size A m news)(h1:∀u∈news,u.oneCell'=true)(h63:n+m≤maxLen)(hbytes:(n+m)*bytes≤140737488355328)(hbase:base≤w.heap.size)(h:∀v' w',w'.ownsRow base e size v' (n+m) (xs++news)→w.grownBy w' v.ownBlock→(v'.ownBlock=v.ownBlock∨v'.ownBlock=some w.heap.size)→K (a.put o.dst v') w'):o.wp P a w K Q:=by
 obtain⟨v',w',hrun,h2,h3,h4⟩:=GJ (P:=P) w base t o.type e i z size bytes ht hi hz hsize hby hzs hsz v n xs hown B A m c news hr h1 h63 hbytes hbase;unfold Oper.wp execOp;simp only[ho,resolve,invoke,builtin,Sem.run_bind,Sem.run_pure,Result.andThen_ok,List.map_toArray,List.map_cons,List.map_nil,hs,hx,hrun];exact h v' w' h2 h3 h4
theorem CZ (hgd:o.guard=none)(s x:Operand)(t:TypeId)(ho:o.op= .call {callee:= .builtin .append,args:= #[s,x],argTypes:= #[t,t]})(base:Nat)(e:TypeId)(i:TypeInfo)(z:Value)(size bytes:Nat)(ht:P.underlying t=some (.slice e))(hi:P.info? e=some i)(hz:i.zero=some z)(hsize:i.size=size)(hby:i.bytes=bytes)(hzs:z.cells.size=size)(hsz:0<size)(v:Value)(n:Nat)(xs:List Value)(hs:a.eval s=v)(hown:w.ownsRow base e size v n xs)(B:Nat)(A:Option Addr)(m c:Nat)(news:List Value)(hx:a.eval x= .slice A m c)(hr:Reads w B size A m news)(h1:∀u∈news,u.oneCell'=true)(h63:n+m≤maxLen)(hbytes:(n+m)*bytes≤140737488355328)(hbase:base≤w.heap.size)(h:∀v' w',w'.ownsRow base e size v' (n+m) (xs++news)→w.grownBy w' v.ownBlock→(v'.ownBlock=v.ownBlock∨v'.ownBlock=some w.heap.size)→wpList P ops Q rest (a.put o.dst v') w'):wpList P ops Q (o::rest) a w:=
 wpList_plain hgd fun _ hK=>Ao w s x t ho base e i z size bytes ht hi hz hsize hby hzs hsz v n xs hs hown B A m c news hx hr h1 h63 hbytes hbase fun v' w' h2 h3 h4=>hK _ _ (h v' w' h2 h3 h4)
theorem Fe (hgd:o.guard=none)(s x:Operand)(t:TypeId)(ho:o.op= .call {callee:= .builtin .append,args:= #[s,x],argTypes:= #[t,t]})(base:Nat)(e:TypeId)(i:TypeInfo)(z:Value)(size bytes:Nat)(ht:P.underlying t=some (.slice e))(hi:P.info? e=some i)(hz:i.zero=some z)(hsize:i.size=size)(hby:i.bytes=bytes)(hzs:z.cells.size=size)(hsz:0<size)(v:Value)(n:Nat)(xs:List Value)(hs:a.eval s=v)(hown:w.ownsRow base e size v n xs)(B:Nat)(A:Option Addr)(m c:Nat)(news:List Value)(hx:a.eval x= .slice A m c)(hr:Reads w B size A m news)(h1:∀u∈news,u.oneCell'=true)(h63:n+m≤maxLen)(hbytes:(n+m)*bytes≤140737488355328)(hbase:base≤w.heap.size)(h:∀v' w',w'.ownsRow base e size v' (n+m) (xs++news)→w.grownBy w' v.ownBlock→(v'.ownBlock=v.ownBlock∨v'.ownBlock=some w.heap.size)→K (a.put o.dst v') w'):
  if Region.wanted o (yielded ops a.tmps)=true then Oper.wp P o a w K Q else E:=by
 have hw:Region.wanted o (yielded ops a.tmps)=true:=by simp[Region.wanted,hgd]
 rw[if_pos hw];exact Ao w s x t ho base e i z size bytes ht hi hz hsize hby hzs hsz v n xs hs hown B A m c news hx hr h1 h63 hbytes hbase h
end
theorem OA {v':Value}{w w':World}(hown:w.ownsRow base e size v n xs)(hbase:base≤w.heap.size)(hg:w.grownBy w' v.ownBlock)(hat:v'.ownBlock=v.ownBlock∨v'.ownBlock=some w.heap.size):oG w base v w' v':=
 ⟨(Below.refl base w).grown hg hbase (fun k hk=>(hown.lt k hk).1),hg,hat.imp_right fun h=>⟨_,h,Nat.le_refl _⟩⟩
theorem kU {P:Program}{w:World}(hgd:o.guard=none)(ho:o.op= .call {callee:= .builtin .append,args:= #[s,x],argTypes:= #[t,t]})(hT:vD P t e size bytes)(hown:w.ownsRow base e size v n xs)(hs:a.eval s=v)(hx:a.eval x= .slice A m c)(hr:Reads w B size A m news)(h1':(news.all fun u=>u.oneCell')=true)(hn:n+m<33554432)(hbase:base≤w.heap.size)(h:∀v' w',w'.ownsRow base e size v' (n+m) (xs++news)→oG w base v w' v'→K (a.put o.dst v') w'):
  if Region.wanted o (yielded ops a.tmps)=true then Oper.wp P o a w K Q else E:=by
 obtain⟨i,z,ht,hi,hz,hsize,hby,hzs,hsz,hb⟩:=hT
 refine Fe w hgd s x t ho base e i z size bytes ht hi hz hsize hby hzs hsz v n xs hs hown B A m c news hx hr (List.all_eq_true.1 h1') (by simp only[maxLen];omega) ?_ hbase
  (fun v' w' h2 h3 h4=>h v' w' h2 (OA hown hbase h3 h4))
 have:(n+m)*bytes≤33554432*4096:=Nat.mul_le_mul (by omega) hb;omega
theorem Fg {P:Program}{w:World}(hgd:o.guard=none)(ho:o.op= .call {callee:= .builtin .append,args:= #[s,x],argTypes:= #[t,t]})(hT:vD P t e size bytes)(hown:w.ownsRow base e size v n xs)(hs:a.eval s=v)(hx:a.eval x= .slice A m c)(hr:Reads w B size A m news)(h1':(news.all fun u=>u.oneCell')=true)(hn:n+m<33554432)(hbase:base≤w.heap.size)(h:∀v' w',w'.ownsRow base e size v' (n+m) (xs++news)→oG w base v w' v'→wpList P ops Q rest (a.put o.dst v') w'):wpList P ops Q (o::rest) a w:=by
 obtain⟨i,z,ht,hi,hz,hsize,hby,hzs,hsz,hb⟩:=hT
 refine CZ w hgd s x t ho base e i z size bytes ht hi hz hsize hby hzs hsz v n xs hs hown B A m c news hx hr (List.all_eq_true.1 h1') (by simp only[maxLen];omega) ?_ hbase
  (fun v' w' h2 h3 h4=>h v' w' h2 (OA hown hbase h3 h4))
 have:(n+m)*bytes≤33554432*4096:=Nat.mul_le_mul (by omega) hb;omega
theorem VH {w:World}(h:w.ownsRow base e size (.slice A n c) n xs):(A=none∧n=0∧c=0)∨∃g,A=some ⟨g,0,none⟩∧n≤c∧base≤g∧g<w.heap.size:=by
 rcases h.2 with⟨hv,hx⟩|⟨g,cap,cur,hv,hg,hh,hcap,_⟩
 ·injection hv with h1 h2 h3
  exact .inl ⟨h1,h2,h3⟩
 ·injection hv with h1 h2 h3
  subst h3;exact .inr ⟨g,h1,hcap,hg,(Array.getElem?_eq_some_iff.1 hh).1⟩
theorem nL {w:World}{g:Nat}{cs:Array Value}(h:aj w g t cs)(hl:cs.size=m*size):Reads w w.heap.size size (some ⟨g,0,none⟩) m cs.toList:=
 ⟨by simpa using hl,fun _=>⟨g,0,rfl,h.lt,fun j u hu=>by
  rw[Nat.zero_add,h.cell]
  simpa using hu⟩⟩
end Go.Proofs.YtgkeameopnpinaaGreatDoor

/-! A view's Entries by its contract. -/
namespace Go.Proofs.YtgkeameopnpinaaGreatDoor
set_option maxRecDepth 100000
set_option maxHeartbeats 2000000
open Go.RowKit Go.Shelf bY Go
attribute [local go_sem] Oper.semAt_some
theorem pE {w:World}{b b' e size n:Nat}{v:Value}{xs:List Value}(h:w.ownsRow b e size v n xs)(hb:b'≤b):w.ownsRow b' e size v n xs:=
 ⟨h.1,h.2.imp id fun⟨g,cap,cur,h1,h2,h3⟩=>⟨g,cap,cur,h1,Nat.le_trans hb h2,h3⟩⟩
theorem VI:(Tryz.prog.info? 159).map (fun i=>(i.zero,i.size,i.bytes))=some (some (.agg #[.int .u64 0,.int .u64 0,.int .u64 0]),3,24):=by kernel_rfl
theorem Ap {B base n:Nat}{V V2 w4:World}{e:TypeId}{size:Nat}{v v4:Value}{xs:List Value}(_:B≤V.heap.size)(hb:Below V.heap.size V V2)(ho:V2.ownsRow base e size v n xs)(hg:oG V2 base v w4 v4):KeepsFrom B V w4:=by
 have h1:KeepsOthers V V2:=⟨hb.size,fun k o hk _=>(hb.block k (Array.getElem?_eq_some_iff.1 hk).1).trans hk⟩
 have h2:KeepsOthers V2 w4:=KeepsOthers.of_grownBy hg.lX (fun j o hj ho'=>by
  rcases ho.2 with⟨rfl,_⟩|⟨g,cap,cur,rfl,_,hh,_⟩
  ·simp[Value.ownBlock]at hj
  ·have:g=j:=by simpa[Value.ownBlock]using hj
   subst this;rw[hh]at ho'
   cases ho';rfl)
 exact(h1.trans h2).from B
theorem VJ:vD Tryz.prog 325 159 3 24:=Gx Tryz.underlying325 VI rfl (by decide) (by decide)
def sP (l:List Nat)(es:List av):List av:=(cB 0 (oZ l)).map fun i=>es.getD i ⟨0,0,0⟩
def atR (es:List av)(pre:List (Fin 8)):List av:=pre.map fun x=>es.getD x.val ⟨0,0,0⟩
theorem Fh (l:List Nat):Marks (oZ l):=pO _
theorem NJ (l:List Nat):(oZ l).length=l.length:=by simp[oZ,AU]
theorem K4 {l:List Nat}{es:List av}{ys:List (Fin 8)}(hys:ys.map Fin.val=cB 0 ((oZ l).map dY)):atR es ys=sP l es:=by
 rw[tq (Fh l)]at hys;unfold sP atR;rw[←hys,List.map_map];rfl
theorem VK (es:List av)(pre:List (Fin 8))(x:Fin 8):(atR es (pre++[x])).flatMap aT=(atR es pre).flatMap aT++aT (es.getD x.val ⟨0,0,0⟩):=by simp[atR]
theorem K5 (gb:Nat)(t:TypeId)(ahead post:List Value)(go:Nat)(l:List Nat)(es:List av)(w:World)(h:bZ w gb t ahead post go l es)(hT:fG w):
  Calls Tryz.prog 232 #[bq ⟨gb,go,none⟩] w fun e w'=>∃A c,e= .returned (.slice A (sP l es).length c)∧w'.ownsRow w.heap.size 159 3 (.slice A (sP l es).length c) (sP l es).length ((sP l es).flatMap aT)∧Below w.heap.size w w':=by
 obtain⟨W,hW,hB,hV,hO⟩:=jZ w 219 #[.pointer (some ⟨gb,go,none⟩)] 325 #[.slice none 0 0];have hG:=h.below hB;have HF:=qd (P7 l h.l8 h.bytes);have HW:=qd hW;have HB:=qd hB;have hg:=World.block_lt_of_cell? w _ (hT 0 (by omega));have K3:=h.l8;unfold bq;clear hW hB;refine(callsIn_wide (n:=10)).1 ?_
 have h1:1≤10:=by omega
 refine kF Tryz.func232 rfl trivial rfl ?_;simp only[Tryz.ntmps232,List.size_toArray,List.length_cons,List.length_nil,Nat.reduceAdd,Nat.reduceSub,Array.replicate_succ,Array.replicate_zero,List.push_toArray,List.append_toArray,List.nil_append,List.cons_append];refine wpIn_wide.2 ?_;go_upto_region 2 with fail;rw[←HW.out];have v0:=hV.cell 0;simp only[List.getElem?_toArray,List.getElem?_cons_zero]at v0;have hw:=hG.word;go_wp2_with fail;refine(HF.out _).mono ?_;rintro e w1 ⟨rfl,rfl⟩;go_wp2_with fail;refine(Fa (oZ l) _).mono ?_;rintro e w1 ⟨rfl,hw1⟩;have hb1:Below W.heap.size W w1:=hw1▸(Below.refl W.heap.size W).alloc (Nat.le_refl _) _;have hL1:aj w1 W.heap.size 23 #[.int .u64 ((w8 (oZ l):Nat):Int)]:=hw1▸aj.new W _ _;clear hw1;replace v0:=aD hb1 v0;replace hw:=aD hb1 hw;go_wp2_with fail;refine(wpIn_wide (n:=10)).1 ?_;have hB1:Below w.heap.size w w1:=bR hb1 HB.out;have hlt3:w.heap.size+1<W.heap.size:=hO.lt;have hgl:gb<w.heap.size:=h.lt;have hT1:fG w1:=fun i hi=>(hB1.cell (p:=⟨14,oq i,none⟩) hg).trans (hT i hi);have hG1:=hG.below hb1;have wR:Boxed w1 (w.heap.size+1) 325 (.slice none 0 0):=hO.below hb1 hO.lt;have hbl:=hB1.size;have hbs:=hb1.size;clear h
 refine wpIn_rangeFunc_ownH rfl h1 (gf:=247) (lb:= #[pQ W.heap.size]) rfl trivial (enters_of Tryz.func247 (by kernel_rfl) rfl)
  (Dp (10-1) (by omega) W.heap.size w1.heap.size [w.heap.size+1] (oZ l) (by rw[NJ];exact K3) (Fh l).bytes w1 (by omega) (by simp;omega) (Nat.le_refl _) hL1.lt (hL1.cell 0) hT1) dK (vk (Nat.le_refl _)) (Below.refl _ _) (fun _=>rfl)
  (fun pre V=>(∃v,Boxed V (w.heap.size+1) 325 v∧V.ownsRow w1.heap.size 159 3 v pre.length ((atR es pre).flatMap aT)∧True)∧aW w1.heap.size [w.heap.size+1] w1 V)
  (fun _ _ _=>False)
  (OwnFrom.and (Own.from (holdsRow_own w1.heap.size (w.heap.size+1) 325 159 3 List.length (fun pre=>(atR es pre).flatMap aT) (fun _ _=>True)) _) (o7 (Nat.le_refl _) (Nat.le_refl _)))
  (fun _ _ _ _ _ hs _ _=>hs)
  ⟨⟨_,wR,⟨by simp[atR],.inl ⟨rfl,rfl⟩⟩,trivial⟩,aW.refl _ _ _⟩
  (fun x a' _=>a'={tmps:= #[.agg #[.pointer (some ⟨gb,go,none⟩)],pQ w.heap.size,.slice none 0 0,.pointer (some ⟨w.heap.size+1,0,none⟩),nI x.val,pQ w.heap.size,.pointer (some ⟨gb,go,none⟩),.pointer (some ⟨gb,go,none⟩),.pointer (some ⟨gb,go,none⟩),.int .u64 ((w8 l:Nat):Int),.int .u64 ((w8 (oZ l):Nat):Int),.func (.func 247) #[] #[pQ W.heap.size],nI x.val,undef,undef,undef,undef,undef,undef,undef,undef,undef,undef,undef],defers:=[]})
  (fun _ _ _ _ _ _ hs _ _=>hs) ?assign ?body ?done ?stop
 case assign=>
  rintro lp pre x V K hi hK
  gi_wp2
  exact hK _ _ (KeepsFrom.refl _ _) (aW.refl _ _ _) hi rfl
 case body=>
  rintro lp pre x a' V hl ⟨r,hr⟩ ⟨⟨v,uJ,hO,-⟩,nM⟩ rfl hlt;have Io:x.val<8:=x.isLt;have acJ:gb<w1.heap.size:=hG1.lt
  have hgn:gb∉[w.heap.size+1]:=by simp;omega
  have hv:=(nM.cell (p:=⟨w.heap.size,0,none⟩) (by show w.heap.size<_;omega) (by simp)).trans v0;have X9:bZ V gb t ahead post go l es:=⟨hG1.len,hG1.l8,hG1.bytes,hG1.e8,nM.blk hG1.blk acJ hgn⟩;obtain⟨A,c,rfl⟩:=bE hO;have ho:=uJ.cell;have s0:=X9.at_ x.val 0 Io (by omega);have s1:=X9.at_ x.val 1 Io (by omega);have s2:=X9.at_ x.val 2 Io (by omega);rw[Nat.add_zero]at s0
  have hxi:(x.val:Int)<8:=by omega
  have hx0:(0:Int)≤(x.val:Int):=by omega
  have dU:=qd (VK es pre x);have Bd:=nM.size;clear X9;generalize es.getD x.val ⟨0,0,0⟩=x1 at*;simp only[aT,List.getElem?_cons_zero,List.getElem?_cons_succ]at s0 s1 s2
  gi_wp2_with fail
  refine zB (fun(w':World)=>w'.cell? ⟨w.heap.size,0,none⟩=some (.pointer (some ⟨gb,go,none⟩))∧w'.cell? ⟨w.heap.size+1,0,none⟩=some (.slice A pre.length c)∧w'.cell? ⟨gb,go+1+x.val*3,none⟩=some (nU x1.key)∧w'.cell? ⟨gb,go+1+x.val*3+1,none⟩=some (nU x1.val)∧w'.cell? ⟨gb,go+1+x.val*3+2,none⟩=some (nU x1.hash)) [9,10] (by kernel_rfl) (by kernel_rfl) (by rintro⟨_,_,h⟩;exact h) ?_
  try (change bL _ _ _ _ _ _ _ _ _ (World.drew _))
  have hHeld:=(⟨hv,ho,s0,s1,s2⟩:_∧_∧_∧_∧_);refine vT 0 rfl ?_;refine vW 1 rfl ?_;refine vW 3 rfl ?_;refine nT 2 rfl fun K hK=> ?_;go_simp;refine kO hK ?_;clear hK K;refine vW 4 rfl ?_;refine vW 5 rfl ?_;refine vW 6 rfl ?_;refine vT 7 rfl ?_;refine nT 8 rfl fun K hK=> ?_;go_simp;have hb2:Below V.heap.size V (V.alloc (.cells #[nU x1.key,nU x1.val,nU x1.hash] 159)).drew:=((Below.refl V.heap.size V).alloc (Nat.le_refl _) _).drew;obtain⟨V2,hV2⟩:∃V2,V2=(V.alloc (.cells #[nU x1.key,nU x1.val,nU x1.hash] 159)).drew:=⟨_,rfl⟩;have OB:aj V2 V.heap.size 159 #[nU x1.key,nU x1.val,nU x1.hash]:=hV2▸(aj.new V _ _).drew;have hO2:V2.ownsRow w1.heap.size 159 3 (.slice A pre.length c) pre.length ((atR es pre).flatMap aT):=own_below hO (hV2▸hb2) (Nat.le_refl _);rw[←hV2]at hb2⊢;clear hV2;have hHeld:=(⟨aD hb2 hv,aD hb2 ho,aD hb2 s0,aD hb2 s1,aD hb2 s2⟩:_∧_∧_∧_∧_);refine kO hK ?_;clear hK K;refine nT 9 rfl fun K hK=> ?_;refine kU (by rfl) (by rfl) VJ hO2 (by rfl) (by rfl) (nL (size:=3) (m:=1) OB (by rfl)) (by rfl) (by omega) (by have:=hb2.size;have:=Bd;omega) ?_;intro v4 w4 dD gM;obtain⟨A4,c4,rfl⟩:=bE dD;have hox:Boxed w4 (w.heap.size+1) 325 (.slice A pre.length c):=(gM.below.block _ (by omega)).trans ((hb2.block _ uJ.lt).trans uJ);have o4:=hox.cell;have f4:=hox.frozen;have hK4:aW w1.heap.size [w.heap.size+1] w1 w4:=dK nM (dK ((Mod.of_below hb2 _).uP Bd) (aW.of_below gM.below));have Bf:KeepsFrom w1.heap.size V w4:=Ap Bd hb2 hO2 gM
  refine kO hK ?_;clear hK K;refine nT 10 rfl fun K hK=> ?_;go_simp;refine kO hK ?_;clear hK K;refine aQ (by kernel_rfl) ?_ _;have hfin:Boxed (w4.setCell ⟨w.heap.size+1,0,none⟩ (.slice A4 (pre.length+1) c4)) (w.heap.size+1) 325 (.slice A4 (pre.length+1) c4):=hox.set _
  have VL:(Value.slice A4 (pre.length+1) c4).ownBlock≠some (w.heap.size+1):=fun he=>by
   have:=(dD.lt _ he).1;omega
  have hown5:=dD.kept (grownBy_setCell' w4 (w.heap.size+1) (.slice A4 (pre.length+1) c4)) (.inr VL);have uw:=Bf.trans ((KeepsOthers.setCell w4 ⟨w.heap.size+1,0,none⟩ (.slice A4 (pre.length+1) c4)).from _);have wS:aW w1.heap.size [w.heap.size+1] w1 (w4.setCell ⟨w.heap.size+1,0,none⟩ (.slice A4 (pre.length+1) c4)):=hK4.ak (.inl (by simp)) _ _;have Si:aW w1.heap.size [w.heap.size+1] V (w4.setCell ⟨w.heap.size+1,0,none⟩ (.slice A4 (pre.length+1) c4)):=(dK ((Mod.of_below hb2 _).uP Bd) (aW.of_below gM.below)).ak (.inl (by simp)) _ _;have HE:=qd (And.intro uw (And.intro Si (And.intro (And.intro hfin hown5) wS)));clear uw Si hfin hown5 wS Bf hK4 dD gM hox
  gi_wp2
  exact⟨HE.out.1,HE.out.2.1,⟨_,HE.out.2.2.1.1,by rw[dU.out,List.length_append];exact HE.out.2.2.1.2⟩,HE.out.2.2.2⟩
 case done=>
  rintro D ys V hD hys ⟨⟨v,uJ,hO,-⟩,nM⟩ pY;obtain⟨A,c,rfl⟩:=bE hO;have ho:=uJ.cell
  have hlen:ys.length=(sP l es).length:=by rw[←K4 hys];simp[atR]
  rw[K4 hys,hlen]at hO;rw[hlen]at uJ ho;have OC:=(Mod.of_below hB1 [w.heap.size+1]).then nM.mod;have fV:=qd hO;clear hO;go_wp2;refine vo ⟨by simp,.inl ⟨_,_,rfl,run_takeDeferred pY, ?_⟩⟩;refine⟨.slice A (sP l es).length c, ?_,A,c,rfl, ?_, ?_⟩
  ·simp[results,Tryz.f232,go_sem]
  ·exact pE (ownsRow_putObj fV.out _ pY rfl) (by omega)
  ·exact(OC.below (by simp) (Nat.le_refl _)).trans (belowK_b (w:=w) (Nat.le_refl _) V D _ _ (by omega) pY rfl rfl)
 case stop=>
  rintro D c pre V hD hS hI;exact hI.elim
end Go.Proofs.YtgkeameopnpinaaGreatDoor

/-! A group as slots and as bytes: what the lanes tell of the slots. No program in sight. -/
namespace Go.Proofs.YtgkeameopnpinaaGreatDoor.bY
set_option maxRecDepth 100000
set_option maxHeartbeats 2000000
open Go.RowKit Go.Shelf bY Go
def Slot.ent:Slot→av
 | .full e=>e
 |_=>⟨0,0,0⟩
theorem OD (h b:Nat):ku h b=128↔b=h:=by unfold ku;split<;>simp_all
theorem VN (x:Slot)(h:Nat)(hh:h<128):x.byte=h↔∃e,x= .full e∧e.hash % 128=h:=by
 cases x with
 |empty=>simp[Slot.byte];omega
 |oH=>simp[Slot.byte];omega
 |full e=>simp[Slot.byte]
theorem Fj (key hash:Nat)(f:Nat→av):∀(G:j4) (s:Nat),(∀k x,G[k]?=some x→f (s+k)=x.ent)→
  (cB s (G.map fun x=>ku (hash % 128) x.byte)).find? (fun i=>(f i).key==key)=(gI G key hash).map (s+·)
 | [],_,_=>rfl
 |x::G,s,hf=>by
  have ih:=Fj key hash f G (s+1) (fun k y hy=>by have:=hf (k+1) y (by simpa using hy);rwa [show s+(k+1)=s+1+k by omega]at this);have h0:f s=x.ent:=hf 0 x rfl
  have hm:(gI G key hash).map (s+1+·)=((gI G key hash).map (·+1)).map (s+·):=by
   cases gI G key hash with
   |none=>rfl
   |some k=>simp;omega
  rw[List.map_cons,cB];unfold gI at ih hm⊢;rw[List.findIdx?_cons];by_cases hx:x.byte=hash % 128
  ·obtain⟨e,rfl,he⟩:=(VN x _ (by omega)).1 hx;rw[if_pos ((OD _ _).2 hx),List.find?_cons,h0];by_cases hk:e.key=key
   ·have:Slot.isKey key hash (.full e)=true:=by simp[Slot.isKey,he,hk]
    rw[this];simp[Slot.ent,hk]
   ·have:Slot.isKey key hash (.full e)=false:=by simp[Slot.isKey,hk]
    rw[this]
    have h1:((Slot.ent (.full e)).key==key)=false:=by simpa[Slot.ent]using hk
    rw[h1];simp only[Bool.false_eq_true,if_false];rw[ih,hm]
  ·have:Slot.isKey key hash x=false:=by
    cases x with
    |empty=>rfl
    |oH=>rfl
    |full e=>simp[Slot.byte]at hx;simp[Slot.isKey,hx]
   rw[if_neg (fun h=>hx ((OD _ _).1 h)),this,ih,hm];simp
theorem Sj (x:Slot):dY x.byte=128↔x.isFull=false:=by
 cases x with
 |empty=>simp[Slot.byte,dY,Slot.isFull]
 |oH=>simp[Slot.byte,dY,Slot.isFull]
 |full e=>
  have:=Nat.mod_lt e.hash (show 0<128 by omega)
  have h1:dY (e.hash % 128)=0:=by unfold dY;rw[if_pos this]
  show dY (e.hash % 128)=128↔_;rw[h1];simp[Slot.isFull]
theorem Qm (G:j4):firstM ((G.map Slot.byte).map dY)=kC G:=by
 unfold firstM kC;rw[List.map_map,List.findIdx?_map];congr 1;funext x;rw[Bool.eq_iff_iff];simp[Sj]
theorem Ea (G:j4):(G.map Slot.byte).any (·==128)=dF G:=by
 unfold dF;rw[List.any_map];congr 1;funext x
 cases x with
 |empty=>rfl
 |oH=>rfl
 |full e=>simp[Slot.byte,Slot.isEmpty];omega
theorem Fp (f:Nat→av):∀(G:j4) (s:Nat),(∀k x,G[k]?=some x→f (s+k)=x.ent)→(cB s (G.map fun x=>dY (255-x.byte))).map f=bO G
 | [],_,_=>rfl
 |x::G,s,hf=>by
  have ih:=Fp f G (s+1) (fun k y hy=>by have:=hf (k+1) y (by simpa using hy);rwa [show s+(k+1)=s+1+k by omega]at this);have h0:f s=x.ent:=hf 0 x rfl
  have hg:bO (x::G)=x.ents++bO G:=by simp[bO]
  rw[List.map_cons,cB,hg]
  cases x with
  |empty=>rw[if_neg (by simp[Slot.byte,dY]),ih];rfl
  |oH=>rw[if_neg (by simp[Slot.byte,dY]),ih];rfl
  |full e=>
   have h1:dY (255-e.hash % 128)=128:=by unfold dY;rw[if_neg (by omega)]
   rw[if_pos (show dY (255-(Slot.full e).byte)=128 from h1),List.map_cons,ih,h0];rfl
theorem wT (G:j4)(i:Nat)(x:Slot):(G.set i x).map Slot.byte=(G.map Slot.byte).set i x.byte:=List.map_set
theorem o8 (G:j4)(i:Nat)(x:Slot):(G.set i x).map Slot.ent=(G.map Slot.ent).set i x.ent:=List.map_set
theorem zD (G:j4)(i:Nat):(G.map Slot.ent).getD i ⟨0,0,0⟩=(G.getD i .empty).ent:=by
 rw[List.getD_eq_getElem?_getD,List.getD_eq_getElem?_getD,List.getElem?_map]
 cases G[i]?<;>rfl
theorem Ip (G:j4)(i:Nat)(hi:i<G.length):(G.map Slot.byte).getD i 0=(G.getD i .empty).byte:=by
 rw[List.getD_eq_getElem?_getD,List.getD_eq_getElem?_getD,List.getElem?_map,List.getElem?_eq_getElem hi];rfl
theorem Sk (x:Slot):x.byte<128↔x.isFull=true:=by
 cases x with
 |empty=>simp[Slot.byte,Slot.isFull]
 |oH=>simp[Slot.byte,Slot.isFull]
 |full e=>simp[Slot.byte,Slot.isFull];omega
theorem Sl (x:Slot)(h:x.isFull=false):(x.byte==254)=x.iD:=by
 cases x with
 |empty=>rfl
 |oH=>rfl
 |full e=>cases h
end Go.Proofs.YtgkeameopnpinaaGreatDoor.bY

/-! A group of slots in memory: its view's functions, told of slots. -/
namespace Go.Proofs.YtgkeameopnpinaaGreatDoor
set_option maxRecDepth 100000
set_option maxHeartbeats 2000000
open Go.RowKit Go.Shelf bY Go
def lM (w:World)(gb:Nat)(t:TypeId)(pre post:List Value)(go:Nat)(G:j4):Prop:=bZ w gb t pre post go (G.map Slot.byte) (G.map Slot.ent)
section
variable {w w' : World} {gb go : Nat} {t : TypeId} {pre post : List Value} {G : j4}
theorem lM.len8 (h:lM w gb t pre post go G):G.length=8:=by have:=h.l8;simpa using this
theorem lM.lt (h:lM w gb t pre post go G):gb<w.heap.size:=h.blk.lt
theorem lM.mod {S:List Nat}(h:lM w gb t pre post go G)(hm:Mod S w w')(hg:gb∉S):lM w' gb t pre post go G:=bZ.mod h hm hg
instance {w w':World}{gb:Nat}{t:TypeId}{pre post:List Value}{go:Nat}{G:j4}:Md (lM w gb t pre post go G) w w' (lM w' gb t pre post go G) (fun S=>gb∉S):=⟨fun h hm hs=>lM.mod h hm hs⟩
theorem lM.below (h:lM w gb t pre post go G)(hb:Below w.heap.size w w'):lM w' gb t pre post go G:=bZ.below h hb
theorem lM.keep {n₀:Nat}{S:List Nat}(h:lM w gb t pre post go G)(hm:aW n₀ S w w')(hn:gb<n₀)(hg:gb∉S):lM w' gb t pre post go G:=⟨h.len,h.l8,h.bytes,h.e8,hm.blk h.blk hn hg⟩
end
section
variable (gb : Nat) (t : TypeId) (pre post : List Value) (go : Nat) (G : j4) (w : World) (h : lM w gb t pre post go G)
include h
theorem yN (i:Nat)(hi:i<8):(G.map Slot.byte).getD i 0<128↔(G.getD i .empty).isFull=true:=by
 rw[Ip G i (by rw[h.len8];exact hi),Sk]
theorem VO (key hash:Nat)(h64:hash<18446744073709551616)(hT:fG w):
  Calls Tryz.prog 191 #[bq ⟨gb,go,none⟩,nU key,nU hash] w fun e w'=>e= .returned (.int .i64 (sw (gI G key hash)))∧Below w.heap.size w w':=by
 have:=Sg gb t pre post go _ _ key hash h64 w h hT;unfold Cy at this;rw[List.map_map]at this
 have he:=Fj key hash (fun i=>(G.map Slot.ent).getD i ⟨0,0,0⟩) G 0 (fun k x hk=>by
  rw[Nat.zero_add,zD,List.getD_eq_getElem?_getD,hk];rfl)
 have hm:(gI G key hash).map (0+·)=gI G key hash:=by cases gI G key hash<;>simp
 rw[hm]at he;rw[show(cB 0 (List.map (ku (hash % 128)∘Slot.byte) G))=cB 0 (G.map fun x=>ku (hash % 128) x.byte)from rfl,he]at this;exact this
theorem VP (hT:fG w):Calls Tryz.prog 190 #[bq ⟨gb,go,none⟩] w fun e w'=>e= .returned (.int .i64 (sw (kC G)))∧Below w.heap.size w w':=by
 have:=R6 gb t pre post go _ _ w h hT
 rwa [Qm]at this
theorem VQ:Calls Tryz.prog 192 #[bq ⟨gb,go,none⟩] w fun e w'=>e= .returned (.bool (dF G))∧Below w.heap.size w w':=by
 have:=A8 gb t pre post go _ _ w h
 rwa [Ea]at this
theorem Dq (i:Nat)(hi:i<8)(e:av)(he:G.getD i .empty= .full e):
  Calls Tryz.prog 193 #[bq ⟨gb,go,none⟩,nI i] w fun x w'=>x= .returned (.tuple #[aO e,.bool true])∧Below w.heap.size w w':=by
 have:=KT gb t pre post go _ _ i hi w h ((yN gb t pre post go G w h i hi).2 (by rw[he];rfl))
 rwa [zD,he]at this
theorem Iq (i:Nat)(hi:i<8)(he:(G.getD i .empty).isFull=false)(E:Nat→Addr)(hE:dV E w 5):
  Calls Tryz.prog 193 #[bq ⟨gb,go,none⟩,nI i] w fun x w'=>x= .returned (.tuple #[aO ⟨0,0,0⟩,.bool false])∧Below w.heap.size w w':=
 Qf gb t pre post go _ _ i hi w h (fun hl=>by rw[(yN gb t pre post go G w h i hi).1 hl]at he;cases he) E hE
theorem Zq (i:Nat)(hi:i<8)(e:av)(h64:e.hash<18446744073709551616)(he:(G.getD i .empty).isFull=false):
  Calls Tryz.prog 196 #[bq ⟨gb,go,none⟩,nI i,aO e] w fun x w'=>x= .returned (.tuple #[.bool (G.getD i .empty).iD,.nilIface])∧lM w' gb t pre post go (G.set i (.full e))∧Mod [gb] w w':=by
 have:=VA gb t pre post go _ _ i hi e h64 w h (fun hl=>by rw[(yN gb t pre post go G w h i hi).1 hl]at he;cases he);rw[Ip G i (by rw[h.len8];exact hi),Sl _ he]at this;refine this.mono fun x w' ⟨h1,h2,h3⟩=>⟨h1, ?_,h3⟩;unfold lM;rw[wT,o8];exact h2
theorem Zr (i:Nat)(hi:i<8)(v:Nat)(e:av)(he:G.getD i .empty= .full e):
  Calls Tryz.prog 194 #[bq ⟨gb,go,none⟩,nI i,nU v] w fun x w'=>x= .returned .nilIface∧lM w' gb t pre post go (G.set i (.full {e with val:=v}))∧Mod [gb] w w':=by
 have K3:i<G.length:=by rw[h.len8];exact hi
 have:=VB gb t pre post go _ _ i hi v w h ((yN gb t pre post go G w h i hi).2 (by rw[he];rfl));rw[zD,he]at this;refine this.mono fun x w' ⟨h1,h2,h3⟩=>⟨h1, ?_,h3⟩;unfold lM;rw[wT,o8]
 have hb:(G.map Slot.byte).set i (Slot.full {e with val:=v}).byte=G.map Slot.byte:=by
  apply List.ext_getElem?;intro k;rw[List.getElem?_set];split
  ·next hk=>
   subst hk;rw[if_pos (by simpa using K3),List.getElem?_map,List.getElem?_eq_getElem K3]
   have:G[i]= .full e:=by rw[←he,bY.getD_in K3]
   rw[this];rfl
  ·rfl
 rw[hb];exact h2
theorem Sm (i:Nat)(hi:i<8)(e:av)(he:G.getD i .empty= .full e):
  Calls Tryz.prog 235 #[bq ⟨gb,go,none⟩,nI i] w fun x w'=>x= .returned (.tuple #[.bool !(dF G),.nilIface])∧lM w' gb t pre post go (G.set i (if dF G then .empty else .oH))∧Mod [gb] w w':=by
 have hm:=(yN gb t pre post go G w h i hi).2 (by rw[he];rfl)
 cases ho:dF G with
 |true=>
  refine(E8 gb t pre post go _ _ i hi w h hm (by rw[Ea];exact ho)).mono fun x w' ⟨h1,h2,h3⟩=>⟨h1, ?_,h3⟩;unfold lM;rw[wT,o8];exact h2
 |false=>
  refine(E9 gb t pre post go _ _ i hi w h hm (by rw[Ea];exact ho)).mono fun x w' ⟨h1,h2,h3⟩=>⟨h1, ?_,h3⟩;unfold lM;rw[wT,o8];exact h2
theorem Ir:Calls Tryz.prog 127 #[bq ⟨gb,go,none⟩] w fun x w'=>x= .returned undef∧lM w' gb t pre post go (List.replicate 8 .empty)∧Mod [gb] w w':=Qg gb t pre post go _ _ w h
theorem Dr (hT:fG w):Calls Tryz.prog 232 #[bq ⟨gb,go,none⟩] w fun e w'=>∃A c,e= .returned (.slice A (bO G).length c)∧
  w'.ownsRow w.heap.size 159 3 (.slice A (bO G).length c) (bO G).length ((bO G).flatMap aT)∧Below w.heap.size w w':=by
 have:=K5 gb t pre post go _ _ w h hT
 have he:sP (G.map Slot.byte) (G.map Slot.ent)=bO G:=by
  unfold sP oZ AU;rw[List.map_map,List.map_map];exact Fp _ G 0 (fun k x hk=>by rw[Nat.zero_add,zD,List.getD_eq_getElem?_getD,hk];rfl)
 rwa [he]at this
end
end Go.Proofs.YtgkeameopnpinaaGreatDoor

/-! A table in memory. -/
namespace Go.Proofs.YtgkeameopnpinaaGreatDoor
set_option maxRecDepth 100000
set_option maxHeartbeats 2000000
open Go.RowKit Go.Shelf bY Go
variable {G : j4} {gs : Tab} {i : Nat} {S : List Nat}
structure aB where
 gs:Tab
 live:Int
 bS:Int
def vK (G:j4):List Value:=eT (G.map Slot.byte) (G.map Slot.ent)
def cO (gs:Tab):List Value:=gs.flatMap vK
structure TabAt (w:World)(tb gb:Nat)(T:aB):Prop where
 wide:pz T.gs
 tab:aj w tb 216 #[.slice (some ⟨gb,0,none⟩) T.gs.length T.gs.length,.int .i64 T.live,.int .i64 T.bS]
 Fq:aj w gb 223 (cO T.gs).toArray
 ne:tb≠gb
theorem JX (h:G.length=8):(vK G).length=25:=by unfold vK eT;rw[List.length_cons,fU,List.length_map,h]
theorem Fu (h:pz gs):(cO gs).length=gs.length*25:=by
 induction gs with
 |nil=>rfl
 |cons G gs ih=>
  have h1:=JX (h G (by simp));have h2:=ih (fun X hX=>h X (by simp[hX]));unfold cO at h2⊢;rw[List.flatMap_cons,List.length_append,h1,h2,List.length_cons];omega
theorem NK (hi:i<gs.length):cO gs=cO (gs.take i)++(vK (gs.getD i [])++cO (gs.drop (i+1))):=by
 conv=>lhs;rw[vF (d:=[]) hi]
 simp[cO]
theorem K7 (hi:i<gs.length)(G:j4):cO (gs.set i G)=cO (gs.take i)++(vK G++cO (gs.drop (i+1))):=by
 rw[nH hi];simp[cO]
theorem VR (h:pz gs)(i:Nat)(hG:G.length=8):pz (gs.set i G):=fun X hX=>by
 rcases List.mem_or_eq_of_mem_set hX with hX|rfl
 ·exact h X hX
 ·exact hG
section
variable {w w' : World} {tb gb : Nat} {T : aB}
theorem TabAt.aR (h:TabAt w tb gb T):tb<w.heap.size:=h.tab.lt
theorem TabAt.aS (h:TabAt w tb gb T):gb<w.heap.size:=h.Fq.lt
theorem TabAt.mod (h:TabAt w tb gb T)(hm:Mod S w w')(h1:tb∉S)(h2:gb∉S):TabAt w' tb gb T:=⟨h.wide,h.tab.mod hm h1,h.Fq.mod hm h2,h.ne⟩
instance {w w':World}{tb gb:Nat}{T:aB}:Md (TabAt w tb gb T) w w' (TabAt w' tb gb T) (fun S=>tb∉S∧gb∉S):=⟨fun h hm hs=>h.mod hm hs.1 hs.2⟩
theorem TabAt.below (h:TabAt w tb gb T)(hb:Below w.heap.size w w'):TabAt w' tb gb T:=h.mod (Mod.of_below hb []) (by simp) (by simp)
theorem TabAt.keep {n₀:Nat}(h:TabAt w tb gb T)(hm:aW n₀ S w w')(h1:tb<n₀)(h2:gb<n₀)(h3:tb∉S)(h4:gb∉S):TabAt w' tb gb T:=⟨h.wide,hm.blk h.tab h1 h3,hm.blk h.Fq h2 h4,h.ne⟩
theorem TabAt.group (h:TabAt w tb gb T)(i:Nat)(hi:i<T.gs.length):lM w gb 223 (cO (T.gs.take i)) (cO (T.gs.drop (i+1))) (i*25) (T.gs.getD i []):=by
 have hw:pz (T.gs.take i):=fun X hX=>h.wide X (List.mem_of_mem_take hX);have h8:=h.wide.at_ hi;refine⟨by rw[Fu hw,List.length_take];congr 1;omega,by simpa using h8,RS _,by simpa using h8, ?_⟩;have:=h.Fq;rw[NK hi]at this;exact this
theorem TabAt.nN (h:TabAt w tb gb T)(i:Nat)(hi:i<T.gs.length)(hm:Mod [gb] w w')(hG:lM w' gb 223 (cO (T.gs.take i)) (cO (T.gs.drop (i+1))) (i*25) G):TabAt w' tb gb {T with gs:=T.gs.set i G}:=by
 refine⟨VR h.wide i hG.len8, ?_, ?_,h.ne⟩
 ·have:=h.tab.mod hm (by simpa using h.ne);simpa using this
 ·show aj w' gb _ (cO (T.gs.set i G)).toArray;rw[K7 hi];exact hG.blk
theorem TabAt.cells (h:TabAt w tb gb T):w.cell? ⟨tb,0,none⟩=some (.slice (some ⟨gb,0,none⟩) T.gs.length T.gs.length)∧w.cell? ⟨tb,1,none⟩=some (.int .i64 T.live)∧w.cell? ⟨tb,2,none⟩=some (.int .i64 T.bS):=
 ⟨h.tab.cell 0,h.tab.cell 1,h.tab.cell 2⟩
theorem TabAt.zF (h:TabAt w tb gb T)(x:Int):TabAt (w.setCell ⟨tb,1,none⟩ (.int .i64 x)) tb gb {T with live:=x}:=
 ⟨h.wide,h.tab.ak 1 _,h.Fq.far (p:=⟨tb,1,none⟩) (Ne.symm h.ne) _,h.ne⟩
theorem TabAt.Iu (h:TabAt w tb gb T)(x:Int):TabAt (w.setCell ⟨tb,2,none⟩ (.int .i64 x)) tb gb {T with bS:=x}:=
 ⟨h.wide,h.tab.ak 2 _,h.Fq.far (p:=⟨tb,2,none⟩) (Ne.symm h.ne) _,h.ne⟩
end
def bP (tb:Nat):Value:=pQ tb
theorem qP (tb gb:Nat)(T:aB)(w:World)(h:TabAt w tb gb T):Calls Tryz.prog 167 #[bP tb] w fun e w'=>e= .returned (nI T.gs.length)∧w=w':=by
 obtain⟨h0,h1,h2⟩:=h.cells;clear h;unfold bP;go_in;go_wp2;go_ret;exact⟨rfl,rfl⟩
theorem Sn (tb gb:Nat)(T:aB)(w:World)(h:TabAt w tb gb T):Calls Tryz.prog 165 #[bP tb] w fun e w'=>e= .returned (.int .i64 T.live)∧w=w':=by
 obtain⟨h0,h1,h2⟩:=h.cells;clear h;unfold bP;go_in;go_wp2;go_ret;exact⟨rfl,rfl⟩
theorem NM (tb gb:Nat)(T:aB)(w:World)(h:TabAt w tb gb T):Calls Tryz.prog 166 #[bP tb] w fun e w'=>e= .returned (.int .i64 T.bS)∧w=w':=by
 obtain⟨h0,h1,h2⟩:=h.cells;clear h;unfold bP;go_in;go_wp2;go_ret;exact⟨rfl,rfl⟩
theorem Qn (tb gb:Nat)(T:aB)(w:World)(h:TabAt w tb gb T)(hn:T.gs.length≤64)(hl:0≤T.live∧T.live≤1000)(ht:0≤T.bS∧T.bS≤1000):
  Calls Tryz.prog 195 #[bP tb] w fun e w'=>e= .returned (.int .i64 (7*(T.gs.length:Int)-T.live-T.bS))∧w'=w.drew:=by
 obtain⟨h0,h1,h2⟩:=h.cells;obtain⟨l0,l1⟩:=hl;obtain⟨t0,t1⟩:=ht;clear h;generalize T.gs.length=n at*;generalize T.live=a at*;generalize T.bS=b at*;unfold bP;go_in;go_upto_region 1 with fail;go_region;go_wp2;go_ret;exact⟨gK (by omega),rfl⟩
end Go.Proofs.YtgkeameopnpinaaGreatDoor
