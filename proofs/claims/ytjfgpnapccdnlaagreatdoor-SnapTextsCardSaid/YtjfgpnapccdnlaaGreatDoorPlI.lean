/- An append onto a row of the call's own, whose source reads as a list, nil and empty let in. No statement of the claim. -/
import Derived.Test.YtjfgpnapccdnlaaGreatDoorKit2
import Derived.Maps.AppendAt
import Derived.Deep.AppendLies
import Derived.RegionTactic
import Derived.OwnWalk
import Derived.Test.YtjfgpnapccdnlaaGreatDoorLaneR
import Derived.Test.YtjfgpnapccdnlaaGreatDoorBuilder
import Derived.Lib.Overlaps
import Derived.Lib.AppendZeros
import Derived.Lib.AppendZerosOnto
import Derived.Lib.SliceRun
import Derived.Laws.NewBlocks
import Derived.Laws.Externs
namespace Go.Proofs.YtjfgpnapccdnlaaGreatDoor
set_option maxRecDepth 100000
set_option maxHeartbeats 4000000
open Go.RowKit dF wF Go.Shelf
section
variable {o : Oper} {a : Act} {K : Act → World → Prop} {Q : Exit → Act → World → Prop} {ops : Array Oper} {rest : List Oper} {E : Prop} {B base bytes c m n size : Nat} {e t : TypeId} {v : Value} {news xs : List Value} {s x : Operand} {A : Option Addr}
section
variable {P : Program} (w : World)
theorem ET (base:Nat)(t ty e:TypeId)(i:TypeInfo)(size:Nat)(ht:P.underlying t=some (.slice e))(hi:P.info? e=some i)(v:Value)(n:Nat)(xs:List Value)(hown:w.ownsRow base e size v n xs)(c:Nat):(Builtin.append_ #[t,t] ty #[v,.slice none 0 c]).run P w= .ok v w:=by
 rcases hown.2 with⟨rfl,rfl⟩|⟨g,cap,cur,rfl,_,_,hnc,_⟩
 ·simp[Builtin.append_,run_underlying ht,sizeOf,typeInfo,hi,Builtin.lenOf,Builtin.firstCells]
 ·simp[Builtin.append_,run_underlying ht,sizeOf,typeInfo,hi,Builtin.lenOf,Builtin.firstCells,hnc,storeCells]
theorem JL (base:Nat)(t ty e:TypeId)(i:TypeInfo)(z:Value)(size bytes:Nat)(ht:P.underlying t=some (.slice e))(hi:P.info? e=some i)(hz:i.zero=some z)(hsize:i.size=size)(hby:i.bytes=bytes)(hzs:z.cells.size=size)(hsz:0<size)(v:Value)(n:Nat)(xs:List Value)(hown:w.ownsRow base e size v n xs)(B:Nat)(A:Option Addr)(m c:Nat)(news:List Value)(hr:Reads w B size A m news)(h1:∀u∈news,u.oneCell'=true)(h63:n+m≤maxLen)(hbytes:(n+m)*bytes≤140737488355328)(hbase:base≤w.heap.size):
  ∃v' w',(Builtin.append_ #[t,t] ty #[v,.slice A m c]).run P w= .ok v' w'∧w'.ownsRow base e size v' (n+m) (xs++news)∧w.grownBy w' v.ownBlock∧
   (v'.ownBlock=v.ownBlock∨v'.ownBlock=some w.heap.size):=by
 rcases A with _|ad
 ·have hm:m=0:=by
   rcases Nat.eq_zero_or_pos m with h0|h0
   ·exact h0
   ·obtain⟨b,off,h,_⟩:=hr.2 h0;cases h
  subst hm;have hn:news=[]:=List.eq_nil_of_length_eq_zero (by simpa using hr.1);subst hn;exact⟨v,w,ET w base t ty e i size ht hi v n xs hown c,by simpa using hown,World.grownBy.refl w _,.inl rfl⟩
 ·have hcells:∀j u,news[j]?=some u→w.cell? (ad.add j)=some u:=by
   intro j u hu;rcases Nat.eq_zero_or_pos m with h0|h0
   ·subst h0;have hn:news=[]:=List.eq_nil_of_length_eq_zero (by simpa using hr.1);subst hn;simp at hu
   ·obtain⟨b,off,h,_,hc⟩:=hr.2 h0
    injection h with h
    subst h;rw[show(⟨b,off,none⟩:Addr).add j=⟨b,off+j,none⟩from by unfold Addr.add;split<;>simp_all];exact hc j u hu
  obtain⟨v',w',hrun,h2,h3,_,h5⟩:=run_append_own_at (P:=P) w base t ty e i z size bytes ht hi hz hsize hby hzs hsz v n xs hown ad m c news hr.1 hcells h1 h63 hbytes hbase;exact⟨v',w',hrun,h2,h3,h5⟩
theorem Cn (s x:Operand)(t:TypeId)(ho:o.op= .call {callee:= .builtin .append,args:= #[s,x],argTypes:= #[t,t]})(base:Nat)(e:TypeId)(i:TypeInfo)(z:Value)(size bytes:Nat)(ht:P.underlying t=some (.slice e))(hi:P.info? e=some i)(hz:i.zero=some z)(hsize:i.size=size)(hby:i.bytes=bytes)(hzs:z.cells.size=size)(hsz:0<size)(v:Value)(n:Nat)(xs:List Value)(hs:a.eval s=v)(hown:w.ownsRow base e size v n xs)(B:Nat)(A:Option Addr)(m c:Nat)(news:List Value)(hx:a.eval x= .slice A m c)(hr:Reads w B size A m news)(h1:∀u∈news,u.oneCell'=true)(h63:n+m≤maxLen)(hbytes:(n+m)*bytes≤140737488355328)(hbase:base≤w.heap.size)(h:∀v' w',w'.ownsRow base e size v' (n+m) (xs++news)→w.grownBy w' v.ownBlock→(v'.ownBlock=v.ownBlock∨v'.ownBlock=some w.heap.size)→K (a.put o.dst v') w'):o.wp P a w K Q:=by
 obtain⟨v',w',hrun,h2,h3,h4⟩:=JL (P:=P) w base t o.type e i z size bytes ht hi hz hsize hby hzs hsz v n xs hown B A m c news hr h1 h63 hbytes hbase;unfold Oper.wp execOp;simp only[ho,resolve,invoke,builtin,Sem.run_bind,Sem.run_pure,Result.andThen_ok,List.map_toArray,List.map_cons,List.map_nil,hs,hx,hrun];exact h v' w' h2 h3 h4
theorem EU (hgd:o.guard=none)(s x:Operand)(t:TypeId)(ho:o.op= .call {callee:= .builtin .append,args:= #[s,x],argTypes:= #[t,t]})(base:Nat)(e:TypeId)(i:TypeInfo)(z:Value)(size bytes:Nat)(ht:P.underlying t=some (.slice e))(hi:P.info? e=some i)(hz:i.zero=some z)(hsize:i.size=size)(hby:i.bytes=bytes)(hzs:z.cells.size=size)(hsz:0<size)(v:Value)(n:Nat)(xs:List Value)(hs:a.eval s=v)(hown:w.ownsRow base e size v n xs)(B:Nat)(A:Option Addr)(m c:Nat)(news:List Value)(hx:a.eval x= .slice A m c)(hr:Reads w B size A m news)(h1:∀u∈news,u.oneCell'=true)(h63:n+m≤maxLen)(hbytes:(n+m)*bytes≤140737488355328)(hbase:base≤w.heap.size)(h:∀v' w',w'.ownsRow base e size v' (n+m) (xs++news)→w.grownBy w' v.ownBlock→(v'.ownBlock=v.ownBlock∨v'.ownBlock=some w.heap.size)→wpList P ops Q rest (a.put o.dst v') w'):wpList P ops Q (o::rest) a w:=
 wpList_plain hgd fun _ hK=>Cn w s x t ho base e i z size bytes ht hi hz hsize hby hzs hsz v n xs hs hown B A m c news hx hr h1 h63 hbytes hbase fun v' w' h2 h3 h4=>hK _ _ (h v' w' h2 h3 h4)
theorem Iq (hgd:o.guard=none)(s x:Operand)(t:TypeId)(ho:o.op= .call {callee:= .builtin .append,args:= #[s,x],argTypes:= #[t,t]})(base:Nat)(e:TypeId)(i:TypeInfo)(z:Value)(size bytes:Nat)(ht:P.underlying t=some (.slice e))(hi:P.info? e=some i)(hz:i.zero=some z)(hsize:i.size=size)(hby:i.bytes=bytes)(hzs:z.cells.size=size)(hsz:0<size)(v:Value)(n:Nat)(xs:List Value)(hs:a.eval s=v)(hown:w.ownsRow base e size v n xs)(B:Nat)(A:Option Addr)(m c:Nat)(news:List Value)(hx:a.eval x= .slice A m c)(hr:Reads w B size A m news)(h1:∀u∈news,u.oneCell'=true)(h63:n+m≤maxLen)(hbytes:(n+m)*bytes≤140737488355328)(hbase:base≤w.heap.size)(h:∀v' w',w'.ownsRow base e size v' (n+m) (xs++news)→w.grownBy w' v.ownBlock→(v'.ownBlock=v.ownBlock∨v'.ownBlock=some w.heap.size)→K (a.put o.dst v') w'):
  if Region.wanted o (yielded ops a.tmps)=true then Oper.wp P o a w K Q else E:=by
 have hw:Region.wanted o (yielded ops a.tmps)=true:=by simp[Region.wanted,hgd]
 rw[if_pos hw];exact Cn w s x t ho base e i z size bytes ht hi hz hsize hby hzs hsz v n xs hs hown B A m c news hx hr h1 h63 hbytes hbase h
end
theorem RQ {v':Value}{w w':World}(hown:w.ownsRow base e size v n xs)(hbase:base≤w.heap.size)(hg:w.grownBy w' v.ownBlock)(hat:v'.ownBlock=v.ownBlock∨v'.ownBlock=some w.heap.size):jL w base v w' v':=
 ⟨(Below.refl base w).grown hg hbase (fun k hk=>(hown.lt k hk).1),hg,hat.imp_right fun h=>⟨_,h,Nat.le_refl _⟩⟩
theorem ng {P:Program}{w:World}(hgd:o.guard=none)(ho:o.op= .call {callee:= .builtin .append,args:= #[s,x],argTypes:= #[t,t]})(hT:qc P t e size bytes)(hown:w.ownsRow base e size v n xs)(hs:a.eval s=v)(hx:a.eval x= .slice A m c)(hr:Reads w B size A m news)(h1':(news.all fun u=>u.oneCell')=true)(hn:n+m<33554432)(hbase:base≤w.heap.size)(h:∀v' w',w'.ownsRow base e size v' (n+m) (xs++news)→jL w base v w' v'→K (a.put o.dst v') w'):
  if Region.wanted o (yielded ops a.tmps)=true then Oper.wp P o a w K Q else E:=by
 obtain⟨i,z,ht,hi,hz,hsize,hby,hzs,hsz,hb⟩:=hT
 refine Iq w hgd s x t ho base e i z size bytes ht hi hz hsize hby hzs hsz v n xs hs hown B A m c news hx hr (List.all_eq_true.1 h1') (by simp only[maxLen];omega) ?_ hbase
  (fun v' w' h2 h3 h4=>h v' w' h2 (RQ hown hbase h3 h4))
 have:(n+m)*bytes≤33554432*4096:=Nat.mul_le_mul (by omega) hb;omega
theorem Ir {P:Program}{w:World}(hgd:o.guard=none)(ho:o.op= .call {callee:= .builtin .append,args:= #[s,x],argTypes:= #[t,t]})(hT:qc P t e size bytes)(hown:w.ownsRow base e size v n xs)(hs:a.eval s=v)(hx:a.eval x= .slice A m c)(hr:Reads w B size A m news)(h1':(news.all fun u=>u.oneCell')=true)(hn:n+m<33554432)(hbase:base≤w.heap.size)(h:∀v' w',w'.ownsRow base e size v' (n+m) (xs++news)→jL w base v w' v'→wpList P ops Q rest (a.put o.dst v') w'):wpList P ops Q (o::rest) a w:=by
 obtain⟨i,z,ht,hi,hz,hsize,hby,hzs,hsz,hb⟩:=hT
 refine EU w hgd s x t ho base e i z size bytes ht hi hz hsize hby hzs hsz v n xs hs hown B A m c news hx hr (List.all_eq_true.1 h1') (by simp only[maxLen];omega) ?_ hbase
  (fun v' w' h2 h3 h4=>h v' w' h2 (RQ hown hbase h3 h4))
 have:(n+m)*bytes≤33554432*4096:=Nat.mul_le_mul (by omega) hb;omega
theorem Y0 {w:World}(h:w.ownsRow base e size (.slice A n c) n xs):(A=none∧n=0∧c=0)∨∃g,A=some ⟨g,0,none⟩∧n≤c∧base≤g∧g<w.heap.size:=by
 rcases h.2 with⟨hv,hx⟩|⟨g,cap,cur,hv,hg,hh,hcap,_⟩
 ·injection hv with h1 h2 h3
  exact .inl ⟨h1,h2,h3⟩
 ·injection hv with h1 h2 h3
  subst h3;exact .inr ⟨g,h1,hcap,hg,(Array.getElem?_eq_some_iff.1 hh).1⟩
theorem rA {w:World}{g:Nat}{cs:Array Value}(h:aj w g t cs)(hl:cs.size=m*size):Reads w w.heap.size size (some ⟨g,0,none⟩) m cs.toList:=
 ⟨by simpa using hl,fun _=>⟨g,0,rfl,h.lt,fun j u hu=>by
  rw[Nat.zero_add,h.cell]
  simpa using hu⟩⟩
end
section
def bB (p:Nat×Nat):List Value:=[.int .u64 (p.1:Int),.int .u64 (p.2:Int)]
theorem eY {p:Nat×Nat}{q:Nat}:∀{l:PL} {i:Nat},l[i]?=some p→q<2→(l.flatMap bB)[i*2+q]?=some ((bB p)[q]!)
 | [],_,h,_=>by simp at h
 |x::l,0,h,hq=>by
  obtain rfl:=Option.some.inj h;rw[List.flatMap_cons,List.getElem?_append_left (by simp[bB];omega)]
  have:q=0∨q=1:=by omega
  rcases this with rfl|rfl<;>rfl
 |x::l,i+1,h,hq=>by
  rw[List.flatMap_cons,List.getElem?_append_right (by simp[bB];omega)];have:=eY (l:=l) (i:=i) h hq;rw[show(i+1)*2+q-(bB x).length=i*2+q by simp[bB];omega];exact this
theorem fC (l:PL):(l.flatMap bB).length=l.length*2:=by
 induction l with
 |nil=>rfl
 |cons x l ih=>rw[List.flatMap_cons,List.length_append,ih,List.length_cons];simp[bB];omega
theorem Db (l:PL):∀v∈l.flatMap bB,v.oneCell'=true:=by
 intro v hv;obtain⟨p,_,hp⟩:=List.mem_flatMap.1 hv;simp only[bB,List.mem_cons,List.not_mem_nil,or_false]at hp
 rcases hp with rfl|rfl<;>rfl
theorem TP (l:PL)(i:Nat):(l.flatMap bB).take (i*2)=(l.take i).flatMap bB:=by
 by_cases hi:i≤l.length
 ·have h:=congrArg (List.flatMap bB) (List.take_append_drop i l);rw[List.flatMap_append]at h;rw[←h,List.take_append_of_le_length (by rw[fC,List.length_take];omega),List.take_of_length_le (by rw[fC,List.length_take];omega)]
 ·rw[List.take_of_length_le (by rw[fC];omega),List.take_of_length_le (by omega)]
theorem TQ (l:PL)(i:Nat):(l.flatMap bB).drop (i*2)=(l.drop i).flatMap bB:=by
 have h:=congrArg (List.flatMap bB) (List.take_append_drop i l);rw[List.flatMap_append]at h;by_cases hi:i≤l.length
 ·rw[←h,List.drop_append_of_le_length (by rw[fC,List.length_take];omega),List.drop_of_length_le (by rw[fC,List.length_take];omega),List.nil_append]
 ·rw[List.drop_of_length_le (by rw[fC];omega),List.drop_of_length_le (by omega)];rfl
theorem V5 {l:PL}{i:Nat}(h:i<l.length)(k v:Nat)(hk:(l[i]?).map Prod.fst=some k):(l.flatMap bB).set (i*2+1) (.int .u64 (v:Int))=(l.set i (k,v)).flatMap bB:=by
 induction l generalizing i with
 |nil=>simp at h
 |cons x l ih=>
  cases i with
  |zero=>
   have:x.1=k:=by simpa using hk
   simp[bB,this]
  |succ i=>
   rw[List.set_cons_succ,List.flatMap_cons,List.flatMap_cons,←ih (by simpa using h) (by simpa using hk),List.set_append_right _ _ (by simp[bB];omega)];congr 2;simp[bB];omega
theorem uI:(Tryz.prog.info? 49).map (fun i=>(i.zero,i.size,i.bytes))=some (some (.agg #[.int .u64 0,.int .u64 0]),2,16):=by kernel_rfl
theorem QU:qc Tryz.prog 22 49 2 16:=xH Tryz.underlying22 uI rfl (by decide) (by decide)
def tK (base:Nat)(w:World)(fb most:Nat)(F:List Nat)(l:PL):Prop:=
 ∃v,aj w fb 154 #[.int .i64 (most:Int),v]∧w.ownsRow base 49 2 v l.length (l.flatMap bB)∧F=fb::v.ownBlock.toList∧base≤fb∧jq l
def Y1 (base:Nat)(w w':World)(fb most:Nat)(F:List Nat)(l:PL):Prop:=
 ∃F',tK base w' fb most F' l∧(∀q∈F',q∈F∨w.heap.size≤q)∧Mod F w w'
theorem abW {w:World}{base n g sz:Nat}{e t:TypeId}{v:Value}{xs:List Value}{cs:Array Value}(h:w.ownsRow base e sz v n xs)(hB:aj w g t cs)(ht:t≠e):g∉v.ownBlock.toList:=by
 intro hg
 have hg':v.ownBlock=some g:=by simpa using hg
 rcases h.2 with⟨rfl,_⟩|⟨g',cap,cur,rfl,_,hh,_⟩
 ·cases hg'
 ·have:g'=g:=by simpa[Value.ownBlock]using hg'
  subst this;have h1:w.heap[g']?=some (.cells cs t (0,0)):=hB;rw[hh]at h1
  injection h1 with h1
  injection h1 with _ h1 _
  exact ht h1.symm
section
variable {base most fb n : Nat} {w w' : World} {F S : List Nat} {l l' : PL}
theorem tK.iE (h:tK base w fb most F l):∀q∈F,q<w.heap.size∧base≤q:=by
 obtain⟨v,h1,h2,rfl,h3,_⟩:=h;intro q hq;rcases List.mem_cons.1 hq with rfl|hq
 ·exact⟨h1.lt,h3⟩
 ·have:=h2.lt q (by simpa using hq);exact⟨this.2,this.1⟩
theorem tK.mod (h:tK base w fb most F l)(hm:Mod S w w')(hS:∀q∈S,q∉F):tK base w' fb most F l:=by
 obtain⟨v,h1,h2,rfl,h3⟩:=h;refine⟨v,h1.mod hm (fun hq=>hS fb hq (by simp)),⟨h2.1, ?_⟩,rfl,h3⟩;rcases h2.2 with k|⟨g,cap,cur,rfl,k2,k3,k4⟩
 ·exact .inl k
 ·refine .inr ⟨g,cap,cur,rfl,k2, ?_,k4⟩;rw[hm.block g (Array.getElem?_eq_some_iff.1 k3).1 (fun hq=>hS g hq (by simp[Value.ownBlock]))];exact k3
theorem tK.below (h:tK base w fb most F l)(hb:Below w.heap.size w w'):tK base w' fb most F l:=h.mod (Mod.of_below hb []) (by simp)
theorem tK.yX (h:tK base w fb most F l):jq l:=by
 obtain⟨v,_,_,_,_,h⟩:=h;exact h
end
def lq (a b:Nat):Int:=if a<b then-1 else if b<a then 1 else 0
theorem V6 (x:Int)(w:World):Calls Tryz.prog 231 #[.int .u64 x] w fun y w'=>y= .returned (.bool false)∧w=w':=by
 go_in;go_wp2;go_ret;exact⟨by simp,rfl⟩
theorem QV (a b:Nat)(w:World):Calls Tryz.prog 177 #[.int .u64 (a:Int),.int .u64 (b:Int)] w fun e w'=>e= .returned (.int .i64 (lq a b))∧w=w':=by
 have HN:=qd (fun(z:Int) (W:World)=>V6 z W);obtain⟨v,hv⟩:∃v,v=lq a b:=⟨_,rfl⟩;rw[←hv];rcases Nat.lt_trichotomy a b with h|h|h
 focus
  have h1:(a:Int)<(b:Int):=by omega
  obtain rfl:v= -1:=by rw[hv];unfold lq;rw[if_pos h]
  clear hv h
 rotate_left
 focus
  subst h
  obtain rfl:v=0:=by rw[hv];unfold lq;simp
  clear hv
 rotate_left
 focus
  have h1:¬(a:Int)<(b:Int):=by omega
  have h2:(b:Int)<(a:Int):=by omega
  obtain rfl:v=1:=by rw[hv];unfold lq;rw[if_neg (by omega),if_pos h]
  clear hv h
 all_goals
  go_in;go_wp2_with fail;refine(HN.out _ _).mono ?_;rintro e wq ⟨rfl,rfl⟩;go_wp2_with fail;refine(HN.out _ _).mono ?_;rintro e wq ⟨rfl,rfl⟩;go_wp2;go_ret;exact⟨rfl,rfl⟩
theorem N8 (p:Nat×Nat)(key:Nat)(w:World):Calls Tryz.prog 114 #[.agg #[.int .u64 (p.1:Int),.int .u64 (p.2:Int)],.int .u64 (key:Int)] w fun e w'=>e= .returned (.int .i64 (lq p.1 key))∧Below w.heap.size w w':=by
 have HC:=qd (fun(W:World)=>QV p.1 key W);go_in;go_wp2_with fail;refine(HC.out _).mono ?_;rintro e wq ⟨rfl,rfl⟩;go_wp2;go_ret;exact⟨rfl,(Below.refl w.heap.size w).alloc (Nat.le_refl _) _⟩
end
section
variable {k v : Int} {base c g i n vb : Nat} {w : World} {xs : List Value} {tv : TypeId}
theorem QW (w:World):(Go.sizeOf 49).run Tryz.prog w= .ok 2 w:=by kernel_rfl
theorem wQ:(Tryz.prog.info? 49).map (·.size)=some 2:=by kernel_rfl
theorem EG:∀x∈[Value.int .u64 k,Value.int .u64 v],x.oneCell'=true:=by
 intro x hx;simp only[List.mem_cons,List.not_mem_nil,or_false]at hx
 rcases hx with rfl|rfl<;>rfl
theorem N9 (c0:w.cell? ⟨vb,0,none⟩=some (.int .u64 k))(c1:w.cell? ⟨vb,1,none⟩=some (.int .u64 v)):∀(j:Nat) (u:Value),[Value.int .u64 k,Value.int .u64 v][j]?=some u→w.cell? ((⟨vb,0,none⟩:Addr).add j)=some u:=by
 intro j u hj
 have hadd:(⟨vb,0,none⟩:Addr).add j=⟨vb,j,none⟩:=by unfold Addr.add;split<;>simp_all
 rw[hadd]
 match j,hj with
 |0,hj=>obtain rfl:=Option.some.inj hj;exact c0
 |1,hj=>obtain rfl:=Option.some.inj hj;exact c1
 |j+2,hj=>simp at hj
def Gp (base n:Nat)(v0:Value)(xs:List Value)(w:World)(e:Ending)(w':World):Prop:=
 ∃v',e= .returned v'∧w'.ownsRow base 49 2 v' (n+1) xs∧Mod v0.ownBlock.toList w w'∧∀q∈v'.ownBlock.toList,q∈v0.ownBlock.toList∨w.heap.size≤q
theorem TR {A:Option Addr}(ho:w.ownsRow base 49 2 (.slice A n c) n xs)(hB:aj w vb tv #[.int .u64 k,.int .u64 v])(hn:n≤100000)(hbw:base≤w.heap.size):
  Calls Tryz.prog 74 #[.slice A n c,.int .i64 (n:Int),.slice (some ⟨vb,0,none⟩) 1 1] w (Gp base n (.slice A n c) (xs++[.int .u64 k,.int .u64 v]) w):=by
 obtain⟨c0,c1⟩:=hB.c2;have HA:=qd (N9 c0 c1);have HO:=qd ho;obtain⟨i0,hi0,hz0,hz1,hz2⟩:=info_parts uI;have HI:=qd (And.intro hi0 (And.intro hz0 (And.intro hz1 hz2)));have hcap:=Y0 ho;clear ho hB hi0 hz0 hz1 hz2 c0 c1
 have hfin:∀v' w1,w1.ownsRow base 49 2 v' (n+1) (xs++[.int .u64 k,.int .u64 v])→w.grownBy w1 (Value.slice A n c).ownBlock→(v'.ownBlock=(Value.slice A n c).ownBlock∨v'.ownBlock=some w.heap.size)→Gp base n (.slice A n c) (xs++[.int .u64 k,.int .u64 v]) w (.returned v') w1:=by
  intro v' w1 hown hg hat;refine⟨v',rfl,hown,⟨hg.os,hg.tape,hg.output,hg.size,fun q hq hne=>hg.block q hq (fun e=>hne (by simp[e]))⟩,fun q hq=> ?_⟩;rcases hat with hat|hat
  ·exact .inl (by rw[←hat];exact hq)
  ·refine .inr ?_;rw[hat]at hq
   have:q=w.heap.size:=by simpa using hq
   omega
 have HFin:=qd hfin;clear hfin;rcases hcap with⟨rfl,rfl,rfl⟩|⟨g,rfl,_⟩
 ·go_in;go_wp2_with (at_builtin;refine wpList_append_own_at _ rfl _ _ 22 rfl base 49 i0 _ 2 16 Tryz.underlying22 HI.out.1 HI.out.2.1 HI.out.2.2.1 HI.out.2.2.2 rfl (by omega) _ _ _ rfl HO.out ⟨vb,0,none⟩ 1 1 [.int .u64 k,.int .u64 v] rfl rfl HA.out EG (by simp[maxLen]) (by omega) hbw ?_;intro v' w1 hown hg _ hat;have HP:=qd (HFin.out v' w1 hown hg hat);clear hown hg hat);go_ret;exact HP.out
 ·go_in;go_wp2_with (at_builtin;refine wpList_append_own_at _ rfl _ _ 22 rfl base 49 i0 _ 2 16 Tryz.underlying22 HI.out.1 HI.out.2.1 HI.out.2.2.1 HI.out.2.2.2 rfl (by omega) _ _ _ rfl HO.out ⟨vb,0,none⟩ 1 1 [.int .u64 k,.int .u64 v] rfl rfl HA.out EG (by simp[maxLen];omega) (by omega) hbw ?_;intro v' w1 hown hg _ hat;have HP:=qd (HFin.out v' w1 hown hg hat);clear hown hg hat)
  all_goals go_ret
  all_goals exact HP.out
theorem Oa (ho:w.ownsRow base 49 2 (.slice (some ⟨g,0,none⟩) n c) n xs)(hB:aj w vb tv #[.int .u64 k,.int .u64 v])(hne:vb≠g)(hi:i<n)(hroom:n+1≤c)(h1x:∀v∈xs,v.oneCell'=true):
  Calls Tryz.prog 74 #[.slice (some ⟨g,0,none⟩) n c,.int .i64 (i:Int),.slice (some ⟨vb,0,none⟩) 1 1] w (Gp base n (.slice (some ⟨g,0,none⟩) n c) (xs.take (i*2)++([.int .u64 k,.int .u64 v]++xs.drop (i*2))) w):=by
 obtain⟨c0,c1⟩:=hB.c2;have ac2:=hB.lt;have Co:w.heap[vb]?=some (.cells #[.int .u64 k,.int .u64 v] tv (0,0)):=hB;have hxl:=ho.1
 obtain⟨cap,cur,hbg,hh,hcc,hmax,hsz,htk,rfl⟩:∃cap cur,base≤g∧w.heap[g]?=some (.cells cur 49 (0,0))∧n≤cap∧cap≤maxLen∧cur.size=cap*2∧cur.toList.take (n*2)=xs∧cap=c:=by
  rcases ho.2 with⟨h,_⟩|⟨g',cap,cur,hv,h1,h2,h3,h4,h5,h6⟩
  ·cases h
  ·injection hv with hv _ hc
   injection hv with hv
   injection hv with hv _ _
   subst hv;exact⟨cap,cur,h1,h2,h3,h4,h5,h6,hc.symm⟩
 obtain⟨L1,hL1⟩:∃L1,L1=splice cur.toList ((i+1)*2) (xs.drop (i*2)):=⟨_,rfl⟩;obtain⟨L2,hL2⟩:∃L2,L2=splice L1 (i*2) [.int .u64 k,.int .u64 v]:=⟨_,rfl⟩
 have hl1:L1.length=cap*2:=by rw[hL1,pK (by rw[List.length_drop,hxl,Array.length_toList];omega),Array.length_toList,hsz]
 have hl2:L2.length=cap*2:=by rw[hL2,pK (by rw[hl1];simp;omega),hl1]
 have Iu:L2.take ((n+1)*2)=xs.take (i*2)++([.int .u64 k,.int .u64 v]++xs.drop (i*2)):=by
  have:=V4 (L:=cur.toList) (vs:=[Value.int .u64 k,.int .u64 v]) (d:=i*2) htk (by omega) (by rw[Array.length_toList];simp;omega);rw[hL2,hL1,show(i+1)*2=i*2+[Value.int .u64 k,.int .u64 v].length by simp;omega,show(n+1)*2=n*2+[Value.int .u64 k,.int .u64 v].length by simp;omega];exact this
 have hgl:g<w.heap.size:=(Array.getElem?_eq_some_iff.1 hh).1;obtain⟨W1,hW1⟩:∃W1,W1=w.drew.setRow g L1.toArray:=⟨_,rfl⟩
 have Y2:W1.heap[g]?=some (.cells L1.toArray 49 (0,0)):=by rw[hW1];exact setRow_heap w.drew g cur _ _ _ hh
 have hcp1:∀ty dc sc,(Builtin.copy_ #[22,22] ty #[.slice (some ⟨g,(i+1)*2,none⟩) (n-i) dc,.slice (some ⟨g,i*2,none⟩) (n+1-i) sc]).run Tryz.prog w.drew= .ok (goInt (Nat.min (n+1-i) (n-i))) W1:=fun ty dc sc=>by
  rw[hW1,hL1];refine yV w.drew _ _ ty 49 2 g ((i+1)*2) (n-i) dc ⟨g,i*2,none⟩ (n+1-i) sc cur 49 (xs.drop (i*2)) Tryz.underlying22 wQ hh ?_ ?_ ?_ ?_
  ·rw[List.length_drop,hxl];simp only[Nat.min_def];split<;>omega
  ·intro j u hj
   have hadd:(⟨g,i*2,none⟩:Addr).add j=⟨g,i*2+j,none⟩:=by unfold Addr.add;split<;>simp_all
   rw[hadd];show(match w.heap[g]? with|some (.cells cs _ _)=>cs[i*2+j]?|_=>none)=_;rw[hh];rw[List.getElem?_drop,←htk,List.getElem?_take]at hj;split at hj
   ·simpa using hj
   ·cases hj
  ·rw[List.length_drop,hxl,hsz];omega
  ·exact fun v hv=>h1x v (List.mem_of_mem_drop hv)
 have hcp2:∀(W:World),W.heap=W1.heap→∀ty dc,(Builtin.copy_ #[22,22] ty #[.slice (some ⟨g,i*2,none⟩) (n+1-i) dc,.slice (some ⟨vb,0,none⟩) 1 1]).run Tryz.prog W= .ok (goInt (Nat.min 1 (n+1-i))) (W.setRow g L2.toArray):=fun W hW ty dc=>by
  rw[hL2]
  have hcell:∀p:Addr,p.block=vb→W.cell? p=w.cell? p:=fun p hp=>by
   have:W.heap[p.block]?=w.heap[p.block]?:=by
    rw[hW,hW1,setRow_other w.drew g p.block _ (by rw[hp];exact hne)];rfl
   unfold World.cell?;rw[this]
  have:=yV W 22 22 ty 49 2 g (i*2) (n+1-i) dc ⟨vb,0,none⟩ 1 1 L1.toArray 49 [.int .u64 k,.int .u64 v] Tryz.underlying22 wQ (by rw[hW];exact Y2) (by simp only[Nat.min_def];split<;>simp<;>omega)
   (N9 (by rw[hcell _ rfl];exact c0) (by rw[hcell _ rfl];exact c1)) (by simp[hl1];omega) EG
  simpa using this
 have hov:∀lb cb,(callFunc 115 #[.slice (some ⟨vb,0,none⟩) 1 1,.slice (some ⟨g,(i+1)*2,none⟩) lb cb]).run Tryz.prog w= .ok (.value (.bool false)) w:=fun lb cb=>by
  rw[run_callFunc_extern Tryz.func115 (by kernel_rfl) (by kernel_rfl) (by kernel_rfl) (e:=Extern.SlicesOverlaps.overlaps #[22,22] #[4]) (by kernel_rfl),
   Lib.run_overlaps_apart w 22 4 49 Tryz.underlying22 2 QW ⟨vb,0,none⟩ ⟨g,(i+1)*2,none⟩ 1 1 lb cb hne tv 49 2 (cap*2) (by simp[World.shape?,Co]) (by simp[World.shape?,hh,hsz]) (by omega) (by simp[World.frozen?,Co]) (by simp[World.frozen?,Co])]
  rfl
 have HFin:=qd (fun(W:World) (hW:W.heap=W1.heap) (h1:W.os=w.os) (h2:W.tape=w.tape) (h3:W.output=w.output)=>show Gp base n (.slice (some ⟨g,0,none⟩) n cap) (xs.take (i*2)++([.int .u64 k,.int .u64 v]++xs.drop (i*2))) w (.returned (.slice (some ⟨g,0,none⟩) (n+1) cap)) (W.setRow g L2.toArray)from by
  have hr:=Ip (n:=n+1) (cur':=L2.toArray) (xs:=xs.take (i*2)++([.int .u64 k,.int .u64 v]++xs.drop (i*2))) (show W.heap[g]?=_ by rw[hW];exact Y2) hbg hroom hmax (by simpa using hl2) (by simpa using Iu);refine⟨_,rfl,hr.1,⟨h1,h2,h3,by simp[World.setRow,hW,hW1],fun q hq hn=> ?_⟩,fun q hq=> .inl hq⟩;have hqg:q≠g:=fun e=>hn (by simp[Value.ownBlock,e]);rw[setRow_other W g q _ hqg,hW,hW1,setRow_other w.drew g q _ hqg]
  rfl)
 have mixed:Tryz.prog.follows Departure.mixedOrders=true:=by kernel_rfl
 have hb1:(0:Int)≤(i:Int)+1:=by omega
 have hz2:¬((i:Int)=(n:Int)):=by omega
 have hw1:IntKind.i64.wrap ((i:Int)+1)=(i:Int)+1:=by rw[IntKind.wrap_i64];unfold maxLen at hmax;omega
 have hw2:IntKind.i64.wrap ((n:Int)+1)=(n:Int)+1:=by rw[IntKind.wrap_i64];unfold maxLen at hmax;omega
 have hin:i≤n:=by omega
 have htn:((i:Int)+1).toNat=i+1:=by omega
 have agx:((n:Int)+1).toNat=n+1:=by omega
 have hb2:¬(cap=i+1):=by omega
 have hb3:(i:Int)≤(n:Int)+1:=by omega
 have hb4:¬(cap=i):=by omega
 have hE:∀(W:World),W.heap=W1.heap→W.os=w.os→W.tape=w.tape→W.output=w.output→True:=fun _ _ _ _ _=>trivial;obtain⟨ys,hys⟩:∃ys,ys=xs.take (i*2)++([Value.int .u64 k,.int .u64 v]++xs.drop (i*2)):=⟨_,rfl⟩;rw[←hys]at HFin⊢;clear hys hL1 hL2 Iu Y2 hh htk hl1 hl2 c0 c1 hB ho hE hmax hsz;go_in;go_wp2_with (simp only[hov]);go_region_law_o (refine step_copy_runI rfl _ _ 22 22 rfl _ _ (by simp[Act.eval,Act.put]) (by simp[Act.eval,Act.put]) (hcp1 _ _ _) ?_);go_wp2_with (at_builtin;refine wpList_copy_runI _ rfl _ _ 22 22 rfl _ _ rfl rfl (hcp2 _ rfl _ _) ?_);go_ret;subst hW1;exact HFin.out _ rfl rfl rfl rfl
theorem QX (ho:w.ownsRow base 49 2 (.slice (some ⟨g,0,none⟩) n c) n xs)(hB:aj w vb tv #[.int .u64 k,.int .u64 v])(hi:i<n)(hroom:c<n+1)(h1x:∀v∈xs,v.oneCell'=true)(hn:n≤100000)(hbw:base≤w.heap.size):
  Calls Tryz.prog 74 #[.slice (some ⟨g,0,none⟩) n c,.int .i64 (i:Int),.slice (some ⟨vb,0,none⟩) 1 1] w (Gp base n (.slice (some ⟨g,0,none⟩) n c) (xs.take (i*2)++([.int .u64 k,.int .u64 v]++xs.drop (i*2))) w):=by
 obtain⟨c0,c1⟩:=hB.c2;have ac2:=hB.lt;have Co:w.heap[vb]?=some (.cells #[.int .u64 k,.int .u64 v] tv (0,0)):=hB;have hxl:=ho.1
 obtain⟨cap,cur,hbg,hh,hcc,hmax,hsz,htk,rfl⟩:∃cap cur,base≤g∧w.heap[g]?=some (.cells cur 49 (0,0))∧n≤cap∧cap≤maxLen∧cur.size=cap*2∧cur.toList.take (n*2)=xs∧cap=c:=by
  rcases ho.2 with⟨h,_⟩|⟨g',cap,cur,hv,h1,h2,h3,h4,h5,h6⟩
  ·cases h
  ·injection hv with hv _ hc
   injection hv with hv
   injection hv with hv _ _
   subst hv;exact⟨cap,cur,h1,h2,h3,h4,h5,h6,hc.symm⟩
 have hgl:g<w.heap.size:=(Array.getElem?_eq_some_iff.1 hh).1;obtain⟨i0,hi0,hz0,hz1,hz2⟩:=info_parts uI
 have hxc:∀(W:World) (hW:W.heap[g]?=w.heap[g]?) (d:Nat) (ys:List Value),(∀j u,ys[j]?=some u→xs[d+j]?=some u)→∀(j:Nat) (u:Value),ys[j]?=some u→W.cell? ((⟨g,d,none⟩:Addr).add j)=some u:=by
  intro W hW d ys hys j u hj
  have hadd:(⟨g,d,none⟩:Addr).add j=⟨g,d+j,none⟩:=by unfold Addr.add;split<;>simp_all
  rw[hadd];show(match W.heap[g]? with|some (.cells cs _ _)=>cs[d+j]?|_=>none)=_;rw[hW,hh];have h:=hys j u hj;rw[←htk,List.getElem?_take]at h;split at h
  ·simpa using h
  ·cases h
 have hold:(Builtin.firstCells i0.size i (.slice (some ⟨g,0,none⟩) i cap)).run Tryz.prog w.drew= .ok (xs.take (i*2)).toArray w.drew:=by
  rw[hz1]
  exact run_firstCells_some w.drew 2 i ⟨g,0,none⟩ i cap (xs.take (i*2)) (by rw[List.length_take];omega) (hxc w.drew rfl 0 _ (fun j u hj=>by
   rw[List.getElem?_take]at hj;split at hj
   ·rw[Nat.zero_add];exact hj
   ·cases hj))
 obtain⟨G,hG⟩:∃G,G=grownCap w (n+1) cap 49 :=⟨_,rfl⟩;obtain⟨Z,hZ⟩:∃Z:Array Value,Z=Builtin.zeroCells (Value.agg #[.int .u64 0,.int .u64 0]).cells (n+1-i)++Builtin.zeroCells (Value.agg #[.int .u64 0,.int .u64 0]).cells (G-(n+1)):=⟨_,rfl⟩
 have hGn:n+1≤G:=by rw[hG];exact grownCap_ge w _ _ _
 have hG63:G≤maxLen:=by
  rw[hG];exact grownCap_le_maxLen w (n+1) cap 49 (by unfold maxLen;omega)
 have hZl:Z.size=(n+1-i)*2+(G-(n+1))*2:=by
  rw[hZ];simp[Builtin.zeroCells,Value.cells]
 have hrz:∀ty,(Builtin.append_ #[22,3] ty #[.slice (some ⟨g,0,none⟩) i cap,.int .i64 ((n:Int)+1-(i:Int))]).run Tryz.prog w=
   .ok (.slice (some ⟨w.heap.size,0,none⟩) (n+1) G) (w.drew.alloc (.cells ((xs.take (i*2)).toArray++Z) 49)):=fun ty=>by
  have h:=Lib.run_append_grow_zeros w 22 3 ty 49 i0 _ .i64 .i64 Tryz.underlying22 Tryz.underlying3 hi0 hz0 (some ⟨g,0,none⟩) i cap (xs.take (i*2)) hold (n+1-i) (by omega) (by omega) (by omega) (by omega) (by rw[hz2];omega) (by rw[hz2,show i+(n+1-i)=n+1 by omega];exact growslice_fits hroom (by omega));rw[show i+(n+1-i)=n+1 by omega,←hG,Array.append_assoc,←hZ]at h;rw[show(n:Int)+1-(i:Int)=((n+1-i:Nat):Int) by omega];exact h
 have hZt:Z.toList.length=(n+1-i)*2+(G-(n+1))*2:=by rw[Array.length_toList];exact hZl
 obtain⟨L0,hL0⟩:∃L0,L0=xs.take (i*2)++Z.toList:=⟨_,rfl⟩
 have abg:(xs.take (i*2)).toArray++Z=L0.toArray:=by rw[hL0];apply Array.ext';simp
 rw[abg]at hrz
 have hl0:L0.length=G*2:=by rw[hL0,List.length_append,List.length_take,hZt,hxl];omega
 obtain⟨L1,hL1⟩:∃L1,L1=splice L0 (i*2) [.int .u64 k,.int .u64 v]:=⟨_,rfl⟩;obtain⟨L2,hL2⟩:∃L2,L2=splice L1 ((i+1)*2) (xs.drop (i*2)):=⟨_,rfl⟩
 have hl1:L1.length=G*2:=by rw[hL1,pK (by rw[hl0];simp;omega),hl0]
 have hl2:L2.length=G*2:=by rw[hL2,pK (by rw[List.length_drop,hxl,hl1];omega),hl1]
 have Iu:L2.take ((n+1)*2)=xs.take (i*2)++([.int .u64 k,.int .u64 v]++xs.drop (i*2)):=by
  have:=YZ (xs:=xs) (vs:=[Value.int .u64 k,.int .u64 v]) (d:=i*2) (Z:=Z.toList) hxl (by omega) (by rw[hZt];simp;omega);rw[hL2,hL1,hL0,show(i+1)*2=i*2+[Value.int .u64 k,.int .u64 v].length by simp;omega,show(n+1)*2=n*2+[Value.int .u64 k,.int .u64 v].length by simp;omega];exact this
 obtain⟨N,hN⟩:∃N,N=w.heap.size:=⟨_,rfl⟩;rw[←hN]at hrz;have hHg:∀(q:Nat) (r:Array Value),q<N→(w.drew.alloc (.cells r 49)).heap[q]?=w.heap[q]?:=fun q r hq=>Below.heap_alloc w.drew _ q (show q<w.heap.size by omega)
 have hHN:∀r:Array Value,(w.drew.alloc (.cells r 49)).heap[N]?=some (.cells r 49 (0,0)):=fun r=>by rw[hN];exact aj.new w.drew 49 r
 have hcpA:∀(W:World),W.heap=(w.drew.alloc (.cells L0.toArray 49)).heap→∀ty dc,(Builtin.copy_ #[22,22] ty #[.slice (some ⟨N,i*2,none⟩) (n+1-i) dc,.slice (some ⟨vb,0,none⟩) 1 1]).run Tryz.prog W= .ok (goInt (Nat.min 1 (n+1-i))) (W.setRow N L1.toArray):=fun W hW ty dc=>by
  rw[hL1]
  have hcell:∀p:Addr,p.block=vb→W.cell? p=w.cell? p:=fun p hp=>by
   have:W.heap[p.block]?=w.heap[p.block]?:=by rw[hW,hHg _ _ (by rw[hp,hN];exact ac2)]
   unfold World.cell?;rw[this]
  have:=yV W 22 22 ty 49 2 N (i*2) (n+1-i) dc ⟨vb,0,none⟩ 1 1 L0.toArray 49 [.int .u64 k,.int .u64 v] Tryz.underlying22 wQ (by rw[hW];exact hHN _) (by simp only[Nat.min_def];split<;>simp<;>omega)
   (N9 (by rw[hcell _ rfl];exact c0) (by rw[hcell _ rfl];exact c1)) (by simp[hl0];omega) EG
  simpa using this
 have hcpB:∀(W:World),(W.heap[N]?=some (.cells L1.toArray 49 (0,0))∧W.heap[g]?=w.heap[g]?)→∀ty dc sc,(Builtin.copy_ #[22,22] ty #[.slice (some ⟨N,(i+1)*2,none⟩) (n-i) dc,.slice (some ⟨g,i*2,none⟩) (n-i) sc]).run Tryz.prog W= .ok (goInt (Nat.min (n-i) (n-i))) (W.setRow N L2.toArray):=fun W hW ty dc sc=>by
  rw[hL2]
  have:=yV W 22 22 ty 49 2 N ((i+1)*2) (n-i) dc ⟨g,i*2,none⟩ (n-i) sc L1.toArray 49 (xs.drop (i*2)) Tryz.underlying22 wQ hW.1 (by rw[List.length_drop,hxl];simp only[Nat.min_def];split<;>omega)
   (hxc W hW.2 (i*2) _ (fun j u hj=>by rw[List.getElem?_drop]at hj;exact hj)) (by rw[List.length_drop,hxl];simp[hl1];omega) (fun v hv=>h1x v (List.mem_of_mem_drop hv))
  simpa using this
 have hmid:∀W:World,W.heap=((w.drew.alloc (.cells L0.toArray 49)).setRow N L1.toArray).heap→W.heap[N]?=some (.cells L1.toArray 49 (0,0))∧∀q,q<N→W.heap[q]?=w.heap[q]?:=fun W hW=>by
  rw[hW];exact⟨setRow_heap _ N _ _ _ _ (hHN _),fun q hq=>by rw[setRow_other _ N q _ (by omega),hHg q _ hq]⟩
 have HFin:=qd (fun(W:World) (hW:W.heap=((w.drew.alloc (.cells L0.toArray 49)).setRow N L1.toArray).heap) (h1:W.os=w.os) (h2:W.tape=w.tape) (h3:W.output=w.output)=>show Gp base n (.slice (some ⟨g,0,none⟩) n cap) (xs.take (i*2)++([.int .u64 k,.int .u64 v]++xs.drop (i*2))) w (.returned (.slice (some ⟨N,0,none⟩) (n+1) G)) (W.setRow N L2.toArray)from by
  have hm:=hmid W hW
  have hsW:W.heap.size=w.heap.size+1:=by rw[hW];simp[World.setRow]
  have hr:=Ip (base:=base) (n:=n+1) (cur':=L2.toArray) (xs:=xs.take (i*2)++([.int .u64 k,.int .u64 v]++xs.drop (i*2))) hm.1 (by omega) hGn hG63 (by simpa using hl2) (by simpa using Iu);refine⟨_,rfl,hr.1,⟨h1,h2,h3,by simp[World.setRow,hsW],fun q hq hn=> ?_⟩,fun q hq=> .inr ?_⟩
  ·rw[setRow_other W N q _ (by omega)];exact hm.2 q (by omega)
  ·have:q=N:=by simpa[Value.ownBlock]using hq
   omega)
 have aeQ:=qd hmid
 have mixed:Tryz.prog.follows Departure.mixedOrders=true:=by kernel_rfl
 have hb1:(0:Int)≤(i:Int)+1:=by omega
 have hz2:¬((i:Int)=(n:Int)):=by omega
 have hz3:(cap:Int)<(n:Int)+1:=by omega
 have hw1:IntKind.i64.wrap ((i:Int)+1)=(i:Int)+1:=by rw[IntKind.wrap_i64];omega
 have hw2:IntKind.i64.wrap ((n:Int)+1)=(n:Int)+1:=by rw[IntKind.wrap_i64];omega
 have hin:i≤n:=by omega
 have htn:((i:Int)+1).toNat=i+1:=by omega
 have hb3:(i:Int)≤(n:Int):=by omega
 have hGi:¬(G=i):=by omega
 have hGim:¬(G=i+1):=by omega
 have hci:¬(cap=i):=by omega
 have hgN:g<N:=by omega
 obtain⟨ys,hys⟩:∃ys,ys=xs.take (i*2)++([Value.int .u64 k,.int .u64 v]++xs.drop (i*2)):=⟨_,rfl⟩;rw[←hys]at HFin⊢;clear hys hL0 hL1 hL2 Iu hh htk hl0 hl1 hl2 c0 c1 hB ho hmax hsz hZ hZl hold hxc hHg hHN hG hmid abg;subst hN;have hT:=fun(ty:TypeId)=>hcpA ((w.alloc (.cells L0.toArray 49)).drew) rfl ty (G-i);have tL:=aeQ.out ((((w.alloc (.cells L0.toArray 49)).drew).setRow w.heap.size L1.toArray).drew) rfl;have jS:=hcpB ((((w.alloc (.cells L0.toArray 49)).drew).setRow w.heap.size L1.toArray).drew) ⟨tL.1,tL.2 g hgN⟩;clear tL;go_in
 go_upto_region 10 with(at_builtin;refine Lib.wpList_append_run _ rfl _ _ _ _ rfl _ _ rfl rfl _ _ (hrz _) ?_)
 go_wp2_with (at_builtin;refine wpList_copy_runI _ rfl _ _ 22 22 rfl _ _ rfl rfl (hT _) ?_);go_region_law_o (refine step_copy_runI rfl _ _ 22 22 rfl _ _ (by simp[Act.eval,Act.put]) (by simp[Act.eval,Act.put]) (jS _ _ _) ?_);go_wp2;go_ret;exact HFin.out _ rfl rfl rfl rfl
end
end Go.Proofs.YtjfgpnapccdnlaaGreatDoor
